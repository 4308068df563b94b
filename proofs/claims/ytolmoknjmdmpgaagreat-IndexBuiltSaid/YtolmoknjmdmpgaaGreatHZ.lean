/- A tree that is built, level by level: its groups. No program in sight. -/
import Derived.Test.YtolmoknjmdmpgaaGreatFT
import Derived.Test.YtolmoknjmdmpgaaGreatFR
import Derived.Test.YtolmoknjmdmpgaaGreatFV
import Derived.Test.YtolmoknjmdmpgaaGreatEC
import Derived.Test.YtolmoknjmdmpgaaGreatFH
set_option linter.unusedSimpArgs false
set_option linter.unusedVariables false
namespace Dsd
open Go.Proofs.YtolmoknjmdmpgaaGreat (encNE encNS)
/-- The last entry gets a bound, another page comes behind it. -/
def pushE (b : List UInt8) (p : Int) : List Ent → List Ent
  | [] => [([], p)]
  | [x] => [(b, x.2), ([], p)]
  | x :: y :: E => x :: pushE b p (y :: E)
theorem pushE_len (b : List UInt8) (p : Int) : ∀ (E : List Ent), (pushE b p E).length = E.length + 1
  | [] => rfl
  | [x] => rfl
  | x :: y :: E => by
    have := pushE_len b p (y :: E)
    simp only [pushE, List.length_cons] at this ⊢
    omega
theorem pushE_cons (b : List UInt8) (p : Int) (E : List Ent) : ∃ z L, pushE b p E = z :: L := by
  cases h : pushE b p E with
  | nil => have := pushE_len b p E; rw [h] at this; simp at this
  | cons z L => exact ⟨z, L, rfl⟩
/-- The greatest bound ahead of the last entry. -/
def lastB : List UInt8 → List Ent → List UInt8
  | a, [] => a
  | a, [_] => a
  | _, x :: y :: E => lastB x.1 (y :: E)
theorem lastB_push (b : List UInt8) (p : Int) : ∀ (E : List Ent) (a : List UInt8), E ≠ [] → lastB a (pushE b p E) = b
  | [], _, h => absurd rfl h
  | [x], _, _ => rfl
  | x :: y :: E, a, _ => by
    have ih := lastB_push b p (y :: E) x.1 (by simp)
    obtain ⟨z, L, hz⟩ := pushE_cons b p (y :: E)
    have e : pushE b p (x :: y :: E) = x :: pushE b p (y :: E) := rfl
    rw [e, hz]
    rw [hz] at ih
    exact ih
theorem ents_push {b : List UInt8} {p : Int} (hp : pageB p = true) (hb : b ≠ []) (h32 : b.length ≤ 32) : ∀ (E : List Ent) (a : List UInt8), E ≠ [] → entsB a E = true → bl (lastB a E) b = true → entsB a (pushE b p E) = true
  | [], _, h, _, _ => absurd rfl h
  | [x], a, _, h, hl => by
    obtain ⟨h1, _, _, _, _⟩ := ents_cons h
    have e : b.isEmpty = false := by simpa using hb
    have hl : bl a b = true := hl
    simp [pushE, entsB, h1, hp, e, h32, hl]
  | x :: y :: E, a, _, h, hl => by
    obtain ⟨h1, h2, h3, h4, h5⟩ := ents_cons h
    have ih := ents_push hp hb h32 (y :: E) x.1 (by simp) h5 hl
    have e : pushE b p (x :: y :: E) = x :: pushE b p (y :: E) := rfl
    obtain ⟨z, L, hz⟩ := pushE_cons b p (y :: E)
    rw [hz] at ih
    rw [e, hz]
    have hx : x.1 ≠ [] := fun e2 => by have := h2.1 e2; cases this
    have e2 : x.1.isEmpty = false := by simpa using hx
    have h4 := h4 (by simp)
    rw [entsB, ih, h1, e2, decide_eq_true h3, h4]
    rfl
theorem pushE_at (b : List UInt8) (p : Int) : ∀ (E : List Ent) (k : Nat), E ≠ [] → k ≤ E.length → entAt (pushE b p E) k = if k + 1 < E.length then entAt E k else if k + 1 = E.length then (b, (entAt E k).2) else ([], p)
  | [], _, h, _ => absurd rfl h
  | [x], k, _, hk => by
    match k, hk with
    | 0, _ => rfl
    | 1, _ => rfl
    | k + 2, hk => simp at hk
  | x :: y :: E, k, _, hk => by
    have e : pushE b p (x :: y :: E) = x :: pushE b p (y :: E) := rfl
    rw [e]
    match k, hk with
    | 0, _ => simp [entAt]
    | k + 1, hk =>
      have ih := pushE_at b p (y :: E) k (by simp) (by simpa using hk)
      have e1 : entAt (x :: pushE b p (y :: E)) (k + 1) = entAt (pushE b p (y :: E)) k := by simp [entAt, List.getD]
      have e2 : entAt (x :: y :: E) (k + 1) = entAt (y :: E) k := by simp [entAt, List.getD]
      rw [e1, ih, e2]
      have l : (x :: y :: E).length = (y :: E).length + 1 := rfl
      rw [l]
      by_cases c1 : k + 1 < (y :: E).length
      · rw [if_pos c1, if_pos (by omega)]
      · rw [if_neg c1, if_neg (show ¬ k + 1 + 1 < (y :: E).length + 1 by omega)]
        by_cases c2 : k + 1 = (y :: E).length
        · rw [if_pos c2, if_pos (show k + 1 + 1 = (y :: E).length + 1 by omega)]
        · rw [if_neg c2, if_neg (show ¬ k + 1 + 1 = (y :: E).length + 1 by omega)]
theorem kids_push {M : List (List UInt8)} {d : DS} {mn l : Nat} {E : List Ent} {P : List Part} (hk : Kids M d mn l E P) (hE : E ≠ []) {b : List UInt8} {p : Int} {x : Part} (hx : Sub M d mn l p x.1 x.2) (hb : b = lowOf x.1) : Kids M d mn l (pushE b p E) (P ++ [x]) := by
  have hl := hk.1
  have hpos : 0 < E.length := List.length_pos_iff.2 hE
  refine ⟨by rw [List.length_append, pushE_len, hl]; rfl, fun k h => ?_⟩
  rw [List.length_append, List.length_singleton] at h ⊢
  rw [pushE_at b p E k hE (by omega)]
  by_cases c0 : k < P.length
  · have e1 : (P ++ [x]).getD k ([], []) = P.getD k ([], []) := by simp [List.getD, List.getElem?_append_left c0]
    obtain ⟨s1, s2⟩ := hk.2 k c0
    rw [e1]
    by_cases c1 : k + 1 < E.length
    · rw [if_pos c1]
      refine ⟨s1, fun _ => ?_⟩
      have e2 : (P ++ [x]).getD (k + 1) ([], []) = P.getD (k + 1) ([], []) := by simp [List.getD, List.getElem?_append_left (show k + 1 < P.length by omega)]
      rw [e2]
      exact s2 (by omega)
    · rw [if_neg c1, if_pos (by omega)]
      refine ⟨s1, fun _ => ?_⟩
      have e2 : (P ++ [x]).getD (k + 1) ([], []) = x := by
        rw [show k + 1 = P.length by omega]
        simp [List.getD]
      rw [e2]; exact hb
  · have e1 : (P ++ [x]).getD k ([], []) = x := by
      rw [show k = P.length by omega]
      simp [List.getD]
    rw [e1, if_neg (by omega), if_neg (by omega)]
    exact ⟨hx, fun h9 => by omega⟩
/-- A node takes pages as long as they fit. -/
def grpGo (size : Int) : Nd → List (List UInt8 × Int) → Nd × List (List UInt8 × Int)
  | n, [] => (n, [])
  | n, x :: R => if nodeFits size ⟨n.level, n.next, pushE x.1 x.2 n.ents⟩ = true then grpGo size ⟨n.level, n.next, pushE x.1 x.2 n.ents⟩ R else (n, x :: R)
/-- What is known of a node that grows. -/
structure GrpN (M : List (List UInt8)) (d : DS) (l : Nat) (n : Nd) (P : List Part) : Prop where
  kids : Kids M d 1 l n.ents P
  ne : n.ents ≠ []
  node : nodeB n = true
  fits : (6 + entsN [] n.ents : Int) ≤ d.interval
  low : ∀ b, b ≠ [] → (∀ y ∈ P, bl (lowOf y.1) b = true) → bl (lastB [] n.ents) b = true
/-- A page with its bound, and what lies below it. -/
def OkT (M : List (List UInt8)) (d : DS) (l : Nat) (t : (List UInt8 × Int) × Part) : Prop := Sub M d 1 l t.1.2 t.2.1 t.2.2 ∧ t.1.1 = lowOf t.2.1 ∧ pageB t.1.2 = true ∧ t.1.1 ≠ [] ∧ t.1.1.length ≤ 32
theorem low_lt {P Q : List Part} {x : Part} (hs : Srt (itsOf (P ++ x :: Q))) (hP : ∀ y ∈ P, y.1 ≠ []) (hx : x.1 ≠ []) : ∀ y ∈ P, bl (lowOf y.1) (lowOf x.1) = true := by
  intro y hy
  obtain ⟨a, ha, ea⟩ := lowOf_mem (hP y hy)
  obtain ⟨c, hc, ec⟩ := lowOf_mem hx
  rw [ea, ec]
  rw [itsOf_app, itsOf_cons] at hs
  exact srt_mem hs (List.mem_flatten.2 ⟨y.1, List.mem_map_of_mem hy, ha⟩) (List.mem_append_left _ hc)
theorem part_ne2 {M : List (List UInt8)} {d : DS} {mn l : Nat} {E : List Ent} {P : List Part} (hk : Kids M d mn l E P) : ∀ y ∈ P, y.1 ≠ [] := by
  intro y hy
  obtain ⟨i, hi, rfl⟩ := List.mem_iff_getElem.1 hy
  have := part_ne hk hi
  have e : P.getD i ([], []) = P[i] := by simp [List.getD, hi]
  rwa [e] at this
theorem grp_run {M : List (List UInt8)} {d : DS} {l : Nat} (hz : isSizeB d.interval = true) : ∀ (T : List ((List UInt8 × Int) × Part)) (n : Nd) (P : List Part), GrpN M d l n P → (∀ t ∈ T, OkT M d l t) → Srt (itsOf (P ++ T.map (·.2))) →
    ∃ Ta Tb n', T = Ta ++ Tb ∧ grpGo d.interval n (T.map (·.1)) = (n', Tb.map (·.1)) ∧ GrpN M d l n' (P ++ Ta.map (·.2)) ∧ n'.level = n.level ∧ n'.next = n.next ∧ (Tb ≠ [] → 3 ≤ n'.ents.length)
  | [], n, P, hg, _, _ => ⟨[], [], n, rfl, rfl, by simpa using hg, rfl, rfl, fun h => absurd rfl h⟩
  | t :: T, n, P, hg, hT, hs => by
    obtain ⟨k1, k2, k3, k4, k5⟩ := hT t (List.mem_cons_self ..)
    rw [List.map_cons] at hs
    have hx : t.2.1 ≠ [] := sub_ne k1
    have hlow := hg.low t.1.1 k4 (by rw [k2]; exact low_lt hs (part_ne2 hg.kids) hx)
    have hv : NSpec n := node_iff.1 hg.node
    have hsz := size_pos hz
    have hfew : n.ents.length ≤ 84 := by
      have := entsN_low [] n.ents
      have := hg.fits
      omega
    have hnb : nodeB ⟨n.level, n.next, pushE t.1.1 t.1.2 n.ents⟩ = true := node_iff.2 ⟨by simp only; rw [pushE_len]; omega, by simp only; rw [pushE_len]; omega, hv.v1, hv.v2, hv.x1, hv.x2, ents_push k3 k4 k5 n.ents [] hg.ne hv.ents hlow⟩
    rw [List.map_cons]
    unfold grpGo
    by_cases hf : nodeFits d.interval ⟨n.level, n.next, pushE t.1.1 t.1.2 n.ents⟩ = true
    · rw [if_pos hf]
      have hg' : GrpN M d l ⟨n.level, n.next, pushE t.1.1 t.1.2 n.ents⟩ (P ++ [t.2]) := by
        refine ⟨kids_push hg.kids hg.ne k1 k2, ?_, hnb, ?_, fun b hb hy => ?_⟩
        · intro e
          have := pushE_len t.1.1 t.1.2 n.ents
          rw [show pushE t.1.1 t.1.2 n.ents = [] from e] at this
          simp at this
        · rw [fits_iff hz hnb, decide_eq_true_eq] at hf
          exact hf
        · simp only
          rw [lastB_push _ _ _ _ hg.ne, k2]
          exact hy t.2 (by simp)
      obtain ⟨Ta, Tb, n', e1, e2, e3, e4, e5, e6⟩ := grp_run hz T _ (P ++ [t.2]) hg' (fun y hy => hT y (List.mem_cons_of_mem _ hy)) (by rw [List.append_assoc]; exact hs)
      refine ⟨t :: Ta, Tb, n', by rw [e1]; rfl, e2, ?_, e4, e5, e6⟩
      rw [List.append_assoc] at e3
      exact e3
    · rw [if_neg hf]
      refine ⟨[], t :: T, n, rfl, rfl, by simpa using hg, rfl, rfl, fun _ => ?_⟩
      have := few_fit hz hnb (by simpa using hf)
      simp only at this
      rw [pushE_len] at this
      omega
theorem grp_one {M : List (List UInt8)} {d : DS} {l : Nat} (hz : isSizeB d.interval = true) {lv p : Int} {x : Part} (h0 : 0 ≤ lv) (h6 : lv ≤ 6) (hp : pageB p = true) (hx : Sub M d 1 l p x.1 x.2) : GrpN M d l ⟨lv, 0, [([], p)]⟩ [x] := by
  have hsz := size_pos hz
  refine ⟨⟨rfl, fun k hk => ?_⟩, by simp, ?_, ?_, fun b hb _ => bl_pos hb⟩
  · match k, hk with
    | 0, _ => exact ⟨hx, fun h9 => by simp at h9⟩
    | k + 1, hk => simp at hk
  · refine node_iff.2 ⟨by simp, by simp, h0, h6, by simp, by simp, ?_⟩
    simp [entsB, hp]
  · simp only [entsN]
    simp
    omega
/-- The nodes of a level, and the bounds between them. -/
def levGo (size lv : Int) : Nat → Int → List (List UInt8 × Int) → List Nd × List (List UInt8)
  | 0, _, _ => ([], [])
  | f + 1, p, R => match (grpGo size ⟨lv, 0, [([], p)]⟩ R).2 with
    | [] => ([(grpGo size ⟨lv, 0, [([], p)]⟩ R).1], [])
    | x :: R' => ((grpGo size ⟨lv, 0, [([], p)]⟩ R).1 :: (levGo size lv f x.2 R').1, x.1 :: (levGo size lv f x.2 R').2)
/-- A group: a node, and what lies below its entries. -/
abbrev Grp := Nd × List Part
theorem lev_run {M : List (List UInt8)} {d : DS} {l : Nat} (hz : isSizeB d.interval = true) {lv : Int} (h0 : 0 ≤ lv) (h6 : lv ≤ 6) : ∀ (f : Nat) (p : Int) (x : Part) (T : List ((List UInt8 × Int) × Part)), T.length < f → pageB p = true → Sub M d 1 l p x.1 x.2 → (∀ t ∈ T, OkT M d l t) → Srt (itsOf (x :: T.map (·.2))) →
    ∃ (g : Grp) (G : List (List UInt8 × Grp)), levGo d.interval lv f p (T.map (·.1)) = (g.1 :: G.map (·.2.1), G.map (·.1)) ∧ GrpN M d l g.1 g.2 ∧ g.1.level = lv ∧ g.1.next = 0 ∧ (∀ y ∈ G, GrpN M d l y.2.1 y.2.2 ∧ y.2.1.level = lv ∧ y.2.1.next = 0 ∧ y.1 = lowOf (itsOf y.2.2) ∧ y.1 ≠ [] ∧ y.1.length ≤ 32) ∧
      itsOf (x :: T.map (·.2)) = itsOf g.2 ++ (G.map fun y => itsOf y.2.2).flatten ∧ 3 * G.length ≤ T.length
  | 0, _, _, T, h, _, _, _, _ => absurd h (Nat.not_lt_zero _)
  | f + 1, p, x, T, hf, hp, hx, hT, hs => by
    obtain ⟨Ta, Tb, n', e1, e2, e3, e4, e5, e6⟩ := grp_run hz T _ [x] (grp_one hz h0 h6 hp hx) hT hs
    subst e1
    unfold levGo
    rw [e2]
    cases Tb with
    | nil =>
      refine ⟨(n', [x] ++ Ta.map (·.2)), [], by simp, e3, e4, e5, (fun y hy => by cases hy), ?_, by simp⟩
      simp
    | cons t Tb =>
      obtain ⟨k1, k2, k3, k4, k5⟩ := hT t (List.mem_append_right _ (List.mem_cons_self ..))
      have h3 := e6 (by simp)
      have hl3 : n'.ents.length = Ta.length + 1 := by
        have := e3.kids.1
        rw [List.length_append, List.length_map] at this
        simp at this; omega
      have hs2 : Srt (itsOf (t.2 :: Tb.map (·.2))) := by
        have e : itsOf (x :: (Ta ++ t :: Tb).map (·.2)) = itsOf (x :: Ta.map (·.2)) ++ itsOf (t.2 :: Tb.map (·.2)) := by
          rw [List.map_append, List.map_cons, ← List.cons_append, itsOf_app]
        rw [e] at hs
        exact (List.pairwise_append.1 hs).2.1
      obtain ⟨g, G, r1, r2, r3, r4, r5, r6, r7⟩ := lev_run hz h0 h6 f t.1.2 t.2 Tb (by simp at hf; omega) k3 k1 (fun y hy => hT y (List.mem_append_right _ (List.mem_cons_of_mem _ hy))) hs2
      refine ⟨(n', [x] ++ Ta.map (·.2)), (t.1.1, g) :: G, ?_, e3, e4, e5, ?_, ?_, ?_⟩
      · simp only [List.map_cons]
        rw [r1]
      · intro y hy
        rcases List.mem_cons.1 hy with rfl | hy
        · refine ⟨r2, r3, r4, ?_, k4, k5⟩
          simp only
          rw [k2]
          have hg : g.2 ≠ [] := fun e => by
            have := r2.kids.1
            rw [e] at this
            exact r2.ne (List.eq_nil_of_length_eq_zero this.symm)
          have hgi : itsOf g.2 ≠ [] := by
            cases hq : g.2 with
            | nil => exact absurd hq hg
            | cons z Z =>
              rw [itsOf_cons]
              have := part_ne2 r2.kids z (by rw [hq]; simp)
              simp [this]
          have e := r6
          rw [itsOf_cons] at e
          rw [← lowOf_append hgi, ← e, lowOf_append (sub_ne k1)]
        · exact r5 y hy
      · rw [List.map_append, List.map_cons, ← List.cons_append, itsOf_app, r6]
        simp
      · simp only [List.length_cons, List.length_append]
        omega
end Dsd
/- A tree that is built, level by level: the whole. No program in sight. -/
namespace Dsd
open Go.Proofs.YtolmoknjmdmpgaaGreat (encNE encNS)
/-- The nodes of a level on their pages. -/
def numN : Int → List Nd → List (Int × Nd)
  | _, [] => []
  | f, [n] => [(f + 1, n)]
  | f, n :: m :: L => (f + 1, { n with next := f + 1 + 1 }) :: numN (f + 1) (m :: L)
def numB : Int → List (List UInt8) → List (List UInt8 × Int)
  | _, [] => []
  | f, b :: L => (b, f + 1) :: numB (f + 1) L
theorem numN_len : ∀ (f : Int) (L : List Nd), (numN f L).length = L.length
  | _, [] => rfl
  | _, [n] => rfl
  | f, n :: m :: L => by
    have := numN_len (f + 1) (m :: L)
    simp only [numN, List.length_cons] at this ⊢
    omega
theorem numB_len : ∀ (f : Int) (L : List (List UInt8)), (numB f L).length = L.length
  | _, [] => rfl
  | f, b :: L => by
    have := numB_len (f + 1) L
    simp only [numB, List.length_cons, this]
theorem numN_at : ∀ (f : Int) (L : List Nd) (k : Nat) (h : k < L.length), ∃ nx, (numN f L)[k]? = some (f + 1 + k, { L[k] with next := nx }) ∧ (nx = L[k].next ∨ nx = f + 1 + k + 1)
  | _, [], k, h => by simp at h
  | f, [n], k, h => by
    obtain rfl : k = 0 := by simp at h; omega
    exact ⟨n.next, by simp [numN], .inl rfl⟩
  | f, n :: m :: L, 0, h => ⟨f + 1 + 1, by simp [numN], .inr (by simp)⟩
  | f, n :: m :: L, k + 1, h => by
    obtain ⟨nx, h1, h2⟩ := numN_at (f + 1) (m :: L) k (by simpa using h)
    refine ⟨nx, ?_, ?_⟩
    · simp only [numN, List.getElem?_cons_succ, List.getElem_cons_succ]
      rw [h1]
      congr 2
      omega
    · rcases h2 with h2 | h2
      · exact .inl (by simpa using h2)
      · exact .inr (by rw [h2]; omega)
theorem numN_mem {f : Int} {L : List Nd} {y : Int × Nd} (h : y ∈ numN f L) : ∃ k, ∃ hk : k < L.length, ∃ nx, y = (f + 1 + k, { L[k] with next := nx }) ∧ (nx = L[k].next ∨ nx = f + 1 + k + 1) := by
  obtain ⟨k, hk, e⟩ := List.mem_iff_getElem.1 h
  rw [numN_len] at hk
  obtain ⟨nx, h1, h2⟩ := numN_at f L k hk
  rw [List.getElem?_eq_getElem (by rw [numN_len]; exact hk)] at h1
  exact ⟨k, hk, nx, by rw [← e]; exact Option.some.inj h1, h2⟩
theorem numN_pg (f : Int) (L : List Nd) : (numN f L).map (·.1) = (List.range L.length).map fun k : Nat => f + 1 + (k : Int) := by
  refine List.ext_getElem (by rw [List.length_map, numN_len]; simp) (fun k h1 h2 => ?_)
  rw [List.length_map, numN_len] at h1
  obtain ⟨nx, h3, _⟩ := numN_at f L k h1
  rw [List.getElem?_eq_getElem (by rw [numN_len]; exact h1)] at h3
  rw [List.getElem_map, Option.some.inj h3, List.getElem_map, List.getElem_range]
theorem numB_at : ∀ (f : Int) (L : List (List UInt8)) (k : Nat) (h : k < L.length), (numB f L)[k]? = some (L[k], f + 1 + k)
  | _, [], k, h => by simp at h
  | f, b :: L, 0, h => by simp [numB]
  | f, b :: L, k + 1, h => by
    have := numB_at (f + 1) L k (by simpa using h)
    simp only [numB, List.getElem?_cons_succ, List.getElem_cons_succ]
    rw [this]
    congr 2
    omega
/-- The whole: the root's page, the height, the last page, the nodes. -/
def bldGo (size : Int) : Nat → Int → Int → Int → List (List UInt8 × Int) → Int × Int × Int × List (Int × Nd)
  | 0, lv, fin, p, _ => (p, lv, fin, [])
  | f + 1, lv, fin, p, R => if R = [] then (p, lv, fin, []) else
      let t := levGo size (lv + 1) (R.length + 1) p R
      let r := bldGo size f (lv + 1) (fin + (t.1.length : Int)) (fin + 1) (numB (fin + 1) t.2)
      (r.1, r.2.1, r.2.2.1, numN fin t.1 ++ r.2.2.2)
theorem grp_enc {M : List (List UInt8)} {d : DS} {l : Nat} (hz : isSizeB d.interval = true) {n : Nd} {P : List Part} (h : GrpN M d l n P) {nx : Int} (h0 : 0 ≤ nx) (h1 : nx ≤ 16777216) : encNE d.interval { n with next := nx } = 0 := by
  have hv : NSpec n := node_iff.1 h.node
  exact encNE_ok hz (node_iff.2 ⟨hv.l1, hv.l2, hv.v1, hv.v2, h0, h1, hv.ents⟩) h.fits
/-- Heads of parts of a sorted list. -/
theorem heads_srt : ∀ (L : List (List Itm)), (∀ y ∈ L, y ≠ []) → Srt L.flatten → (L.map lowOf).Pairwise fun a b => bl a b = true
  | [], _, _ => List.Pairwise.nil
  | y :: L, hn, hs => by
    rw [List.flatten_cons] at hs
    rw [List.map_cons, List.pairwise_cons]
    refine ⟨fun b hb => ?_, heads_srt L (fun z hz => hn z (List.mem_cons_of_mem _ hz)) (List.pairwise_append.1 hs).2.1⟩
    obtain ⟨z, hz, rfl⟩ := List.mem_map.1 hb
    obtain ⟨a, ha, ea⟩ := lowOf_mem (hn y (List.mem_cons_self ..))
    obtain ⟨c, hc, ec⟩ := lowOf_mem (hn z (List.mem_cons_of_mem _ hz))
    rw [ea, ec]
    exact srt_mem hs ha (List.mem_flatten.2 ⟨z, hz, hc⟩)
theorem grp_items {M : List (List UInt8)} {d : DS} {l : Nat} {n : Nd} {P : List Part} (h : GrpN M d l n P) : itsOf P ≠ [] := by
  cases hq : P with
  | nil =>
    have := h.kids.1
    rw [hq] at this
    exact absurd (List.eq_nil_of_length_eq_zero this.symm) h.ne
  | cons z Z =>
    rw [itsOf_cons]
    have := part_ne2 h.kids z (by rw [hq]; simp)
    simp [this]
theorem bld_run {M : List (List UInt8)} {d : DS} (hz : isSizeB d.interval = true) : ∀ (f l : Nat) (fin p : Int) (x : Part) (T : List ((List UInt8 × Int) × Part)), l + f ≤ 6 → T.length < 3 ^ f → pageB p = true → Sub M d 1 l p x.1 x.2 → (∀ t ∈ T, OkT M d l t) → Srt (itsOf (x :: T.map (·.2))) → 0 ≤ fin → fin + T.length + 1 ≤ 16777216 →
    (∀ y ∈ (bldGo d.interval f (l : Int) fin p (T.map (·.1))).2.2.2, loadD M d y.1 y.2.level = (y.2, 0)) →
    ∃ (H : Nat) (pgs : List Int), (bldGo d.interval f (l : Int) fin p (T.map (·.1))).2.1 = (H : Int) ∧ H ≤ 6 ∧ Sub M d 1 H (bldGo d.interval f (l : Int) fin p (T.map (·.1))).1 (itsOf (x :: T.map (·.2))) pgs
  | 0, l, fin, p, x, T, hl, hT, hp, hx, _, _, _, _, _ => by
    obtain rfl : T = [] := by
      cases T with
      | nil => rfl
      | cons t T => simp at hT
    refine ⟨l, x.2, rfl, by omega, ?_⟩
    simp only [bldGo, List.map_nil, itsOf_cons]
    simpa [itsOf] using hx
  | f + 1, l, fin, p, x, T, hl, hTl, hp, hx, hT, hs, hf0, hf1, hM => by
    unfold bldGo at hM ⊢
    by_cases hR : T.map (·.1) = []
    · rw [if_pos hR] at hM ⊢
      obtain rfl : T = [] := by simpa using hR
      refine ⟨l, x.2, rfl, by omega, ?_⟩
      simpa [itsOf] using hx
    · rw [if_neg hR] at hM ⊢
      simp only [List.length_map] at hM ⊢
      obtain ⟨g, G, e1, e2, e3, e4, e5, e6, e7⟩ := lev_run hz (lv := (l : Int) + 1) (by omega) (by omega) (T.length + 1) p x T (by omega) hp hx hT hs
      rw [e1] at hM ⊢
      simp only [List.length_cons, List.length_map] at hM ⊢
      have hlv : ((l : Int) + 1) = ((l + 1 : Nat) : Int) := by omega
      have hsub : ∀ k (hk : k < (g.1 :: G.map (·.2.1)).length) (P : List Part), GrpN M d l (g.1 :: G.map (·.2.1))[k] P → (g.1 :: G.map (·.2.1))[k].level = (l : Int) + 1 → Sub M d 1 (l + 1) (fin + 1 + k) (itsOf P) ((fin + 1 + k) :: pgsOf P) := by
        intro k hk P hP hle
        obtain ⟨nx, h1, _⟩ := numN_at fin (g.1 :: G.map (·.2.1)) k hk
        have hmem := List.mem_of_getElem? h1
        have hld := hM _ (List.mem_append_left _ hmem)
        simp only at hld
        rw [hle, hlv] at hld
        exact node_sub hld (List.length_pos_iff.2 hP.ne) hP.kids
      have h0 := hsub 0 (by simp) g.2 (by simpa using e2) (by simpa using e3)
      rw [show fin + 1 + ((0 : Nat) : Int) = fin + 1 by omega] at h0
      -- the forest of the next level
      obtain ⟨T2, hT2⟩ : ∃ T2 : List ((List UInt8 × Int) × Part), T2 = (numB (fin + 1) (G.map (·.1))).zip (((List.range G.length).zip G).map fun y => (itsOf y.2.2.2, (fin + 1 + (y.1 + 1 : Nat)) :: pgsOf y.2.2.2)) := ⟨_, rfl⟩
      have hlT2 : T2.length = G.length := by rw [hT2, List.length_zip, numB_len]; simp
      have hat : ∀ k (hk : k < G.length), T2[k]? = some ((G[k].1, fin + 1 + 1 + k), (itsOf G[k].2.2, (fin + 1 + (k + 1 : Nat)) :: pgsOf G[k].2.2)) := by
        intro k hk
        have hb := numB_at (fin + 1) (G.map (·.1)) k (by simpa using hk)
        rw [hT2, List.getElem?_zip_eq_some]
        refine ⟨by rw [hb]; simp, ?_⟩
        rw [List.getElem?_map, (List.getElem?_zip_eq_some (z := (k, G[k]))).2 ⟨by simp [hk], by simp [hk]⟩]
        rfl
      have hm1 : T2.map (·.1) = numB (fin + 1) (G.map (·.1)) := by rw [hT2, List.map_fst_zip]; simp [numB_len]
      have hm2 : T2.map (·.2.1) = G.map fun y => itsOf y.2.2 := by
        refine List.ext_getElem (by simp [hlT2]) (fun k h1 h2 => ?_)
        rw [List.length_map, hlT2] at h1
        have := hat k h1
        rw [List.getElem?_eq_getElem (by rw [hlT2]; exact h1)] at this
        rw [List.getElem_map, Option.some.inj this, List.getElem_map]
      have hits : itsOf ((itsOf g.2, (fin + 1) :: pgsOf g.2) :: T2.map (·.2)) = itsOf (x :: T.map (·.2)) := by
        rw [e6, itsOf_cons]
        congr 1
        unfold itsOf
        rw [List.map_map]
        exact congrArg List.flatten hm2
      have hok : ∀ t ∈ T2, OkT M d (l + 1) t := by
        intro t ht
        obtain ⟨k, hk, rfl⟩ := List.mem_iff_getElem.1 ht
        rw [hlT2] at hk
        have := hat k hk
        rw [List.getElem?_eq_getElem (by rw [hlT2]; exact hk)] at this
        rw [Option.some.inj this]
        obtain ⟨q1, q2, q3, q4, q5, q6⟩ := e5 _ (List.getElem_mem hk)
        have hs1 := hsub (k + 1) (by simp; omega) G[k].2.2 (by simpa using q1) (by simpa using q2)
        refine ⟨?_, q4, ?_, q5, q6⟩
        · simp only
          rw [show fin + 1 + 1 + (k : Int) = fin + 1 + ((k + 1 : Nat) : Int) by omega]
          exact hs1
        · unfold pageB
          simp
          omega
      have h3 : G.length < 3 ^ f := by
        rw [Nat.pow_succ] at hTl
        omega
      have hTpos : 0 < T.length := by
        cases T with
        | nil => exact absurd rfl hR
        | cons t T => simp
      have := bld_run hz f (l + 1) (fin + ((G.length + 1 : Nat) : Int)) (fin + 1) (itsOf g.2, (fin + 1) :: pgsOf g.2) T2 (by omega) (by rw [hlT2]; exact h3) (by unfold pageB; simp; omega) h0 hok (by rw [hits]; exact hs) (by omega) (by rw [hlT2]; omega) (fun y hy => by
        rw [hm1, ← hlv] at hy
        exact hM y (List.mem_append_right _ hy))
      rw [hits, hm1, ← hlv] at this
      exact this
theorem numB_fst : ∀ (f : Int) (L : List (List UInt8)), (numB f L).map (·.1) = L
  | _, [] => rfl
  | f, b :: L => by rw [numB, List.map_cons, numB_fst (f + 1) L]
theorem range_app (a b : Nat) (c : Int) : (List.range (a + b)).map (fun k : Nat => c + (k : Int)) = (List.range a).map (fun k : Nat => c + (k : Int)) ++ (List.range b).map (fun k : Nat => c + (a : Int) + (k : Int)) := by
  rw [List.range_add, List.map_append, List.map_map]
  congr 1
  refine List.map_congr_left fun k _ => ?_
  simp only [Function.comp]
  omega
theorem its_one : ∀ (R : List Itm), itsOf (R.map fun r => (([r], []) : Part)) = R
  | [] => rfl
  | r :: R => by rw [List.map_cons, itsOf_cons, its_one R]; rfl
/-- What can be told of the nodes without any memory. -/
theorem bld_pure {d : DS} (hz : isSizeB d.interval = true) : ∀ (f : Nat) (lv fin p : Int) (low : List UInt8) (R : List (List UInt8 × Int)), 0 ≤ lv → lv + f ≤ 6 → R.length < 3 ^ f → pageB p = true → (∀ r ∈ R, pageB r.2 = true ∧ r.1 ≠ [] ∧ r.1.length ≤ 32) → Srt ((low, p) :: R) → 0 ≤ fin → fin + R.length + 1 ≤ 16777216 →
    (bldGo d.interval f lv fin p R).2.2.2.map (·.1) = (List.range (bldGo d.interval f lv fin p R).2.2.2.length).map (fun k : Nat => fin + 1 + (k : Int)) ∧ (∀ y ∈ (bldGo d.interval f lv fin p R).2.2.2, encNE d.interval y.2 = 0 ∧ 1 ≤ y.2.level) ∧
    (bldGo d.interval f lv fin p R).2.2.1 = fin + ((bldGo d.interval f lv fin p R).2.2.2.length : Int) ∧ (bldGo d.interval f lv fin p R).2.2.2.length ≤ R.length ∧ lv ≤ (bldGo d.interval f lv fin p R).2.1 ∧ (bldGo d.interval f lv fin p R).2.1 ≤ 6 ∧ pageB (bldGo d.interval f lv fin p R).1 = true
  | 0, lv, fin, p, low, R, h0, hl, hR, hp, _, _, _, _ => by
    simp only [bldGo]
    refine ⟨by simp, fun y hy => by simp at hy, by simp, by simp, Int.le_refl _, by omega, hp⟩
  | f + 1, lv, fin, p, low, R, h0, hl, hRl, hp, hR, hs, hf0, hf1 => by
    unfold bldGo
    by_cases hn : R = []
    · rw [if_pos hn]
      refine ⟨by simp, fun y hy => by simp at hy, by simp, by simp, Int.le_refl _, by show lv ≤ 6; omega, hp⟩
    · rw [if_neg hn]
      simp only
      have hRpos : 0 < R.length := List.length_pos_iff.2 hn
      have hm1 : (R.map fun r => (r, (([r], []) : Part))).map (·.1) = R := by rw [List.map_map]; exact List.map_id R
      have hi : itsOf ((([(low, p)], []) : Part) :: (R.map fun r => (r, (([r], []) : Part))).map (·.2)) = (low, p) :: R := by
        rw [itsOf_cons, List.map_map]
        exact congrArg ((low, p) :: ·) (its_one R)
      obtain ⟨g, G, e1, e2, e3, e4, e5, e6, e7⟩ := lev_run (M := []) (d := d) (l := 0) hz (lv := lv + 1) (by omega) (by omega) (R.length + 1) p ([(low, p)], []) (R.map fun r => (r, ([r], []))) (by simp) hp ⟨⟨low, rfl⟩, rfl⟩ (fun t ht => by
        obtain ⟨r, hr, rfl⟩ := List.mem_map.1 ht
        obtain ⟨a1, a2, a3⟩ := hR r hr
        exact ⟨⟨⟨r.1, rfl⟩, rfl⟩, rfl, a1, a2, a3⟩) (by rw [hi]; exact hs)
      rw [hm1] at e1
      rw [hi] at e6
      rw [List.length_map] at e7
      rw [e1]
      simp only [List.length_cons, List.length_map]
      have hs2 : Srt ((lowOf (itsOf g.2), fin + 1) :: numB (fin + 1) (G.map (·.1))) := by
        have hh := heads_srt (itsOf g.2 :: G.map fun y => itsOf y.2.2) (fun y hy => by
          rcases List.mem_cons.1 hy with rfl | hy
          · exact grp_items e2
          · obtain ⟨z, hz, rfl⟩ := List.mem_map.1 hy
            exact grp_items (e5 z hz).1) (by rw [List.flatten_cons, ← e6]; exact hs)
        have he : ((lowOf (itsOf g.2), fin + 1) :: numB (fin + 1) (G.map (·.1))).map (·.1) = (itsOf g.2 :: G.map fun y => itsOf y.2.2).map lowOf := by
          rw [List.map_cons, numB_fst, List.map_cons, List.map_map]
          congr 1
          exact List.map_congr_left fun y hy => (e5 y hy).2.2.2.1
        unfold Srt
        rw [← he, List.pairwise_map] at hh
        exact hh
      have h3 : G.length < 3 ^ f := by
        rw [Nat.pow_succ] at hRl
        omega
      obtain ⟨r1, r2, r3, r4, r5, r6, r7⟩ := bld_pure hz f (lv + 1) (fin + ((G.length + 1 : Nat) : Int)) (fin + 1) (lowOf (itsOf g.2)) (numB (fin + 1) (G.map (·.1))) (by omega) (by omega) (by rw [numB_len, List.length_map]; exact h3) (by unfold pageB; simp; omega) (fun r hr => by
        obtain ⟨k, hk, rfl⟩ := List.mem_iff_getElem.1 hr
        rw [numB_len, List.length_map] at hk
        have hb := numB_at (fin + 1) (G.map (·.1)) k (by simpa using hk)
        rw [List.getElem?_eq_getElem (by rw [numB_len, List.length_map]; exact hk)] at hb
        rw [Option.some.inj hb]
        obtain ⟨_, _, _, _, q5, q6⟩ := e5 _ (List.getElem_mem hk)
        simp only [List.getElem_map]
        exact ⟨by unfold pageB; simp; omega, q5, q6⟩) hs2 (by omega) (by rw [numB_len, List.length_map]; omega)
      rw [numB_len, List.length_map] at r4
      generalize bldGo d.interval f (lv + 1) (fin + ((G.length + 1 : Nat) : Int)) (fin + 1) (numB (fin + 1) (G.map (·.1))) = B at *
      have hNl : (numN fin (g.1 :: G.map (·.2.1))).length = G.length + 1 := by rw [numN_len]; simp
      refine ⟨?_, ?_, ?_, ?_, by omega, r6, r7⟩
      · rw [List.map_append, numN_pg, r1, List.length_append, hNl, range_app]
        simp only [List.length_cons, List.length_map]
        congr 1
        refine List.map_congr_left fun k _ => ?_
        omega
      · intro y hy
        rcases List.mem_append.1 hy with hy | hy
        · obtain ⟨k, hk, nx, rfl, hnx⟩ := numN_mem hy
          simp only
          have hkl : k < G.length + 1 := by simpa using hk
          match k, hk, hnx, hkl with
          | 0, hk, hnx, _ =>
            have hnx : nx = g.1.next ∨ nx = fin + 1 + ((0 : Nat) : Int) + 1 := hnx
            refine ⟨grp_enc hz (by simpa using e2) ?_ ?_, ?_⟩
            · rcases hnx with h | h
              · rw [e4] at h; omega
              · omega
            · rcases hnx with h | h
              · rw [e4] at h; omega
              · omega
            · show 1 ≤ g.1.level
              rw [e3]; omega
          | k + 1, hk, hnx, hkl =>
            have hkG : k < G.length := by omega
            obtain ⟨q1, q2, q3, _⟩ := e5 _ (List.getElem_mem hkG)
            have eG : (g.1 :: G.map (·.2.1))[k + 1] = G[k].2.1 := by simp
            rw [eG] at hnx ⊢
            refine ⟨grp_enc hz q1 ?_ ?_, ?_⟩
            · rcases hnx with h | h
              · rw [q3] at h; omega
              · omega
            · rcases hnx with h | h
              · rw [q3] at h; omega
              · omega
            · show 1 ≤ G[k].2.1.level
              rw [q2]; omega
        · exact r2 y hy
      · rw [r3, List.length_append, hNl]; omega
      · rw [List.length_append, hNl]
        by_cases hG : G.length = 0
        · omega
        · omega
/-- The pages of a built tree, written into memory that holds nothing. -/
def bldW (d : DS) (B : Int × Int × Int × List (Int × Nd)) : List Wr := B.2.2.2.map fun y => (y.1, encNS d.interval y.2)
theorem bld_all {d : DS} (hk : keyedB d = true) {R : List Itm} (hl : R.length ≤ 100) (hs : Srt (([], 1) :: R)) (hR : ∀ r ∈ R, pageB r.2 = true ∧ r.1 ≠ [] ∧ r.1.length ≤ 32) :
    ∃ (H : Nat) (pgs : List Int), (bldGo d.interval 6 0 200 1 R).2.1 = (H : Int) ∧ H ≤ 6 ∧ Sub (putsP [[]] (bldW d (bldGo d.interval 6 0 200 1 R))) d 1 H (bldGo d.interval 6 0 200 1 R).1 (([], 1) :: R) pgs := by
  have hz := (keyed_nums hk).1
  obtain ⟨r1, r2, r3, r4, _, _, _⟩ := bld_pure (d := d) hz 6 0 200 1 [] R (by omega) (by omega) (by omega) (by decide) hR hs (by omega) (by omega)
  have hm1 : (R.map fun r => (r, (([r], []) : Part))).map (·.1) = R := by rw [List.map_map]; exact List.map_id R
  have hi : itsOf ((([([], 1)], []) : Part) :: (R.map fun r => (r, (([r], []) : Part))).map (·.2)) = ([], 1) :: R := by
    rw [itsOf_cons, List.map_map]
    exact congrArg (([], 1) :: ·) (its_one R)
  have hpg : ∀ y ∈ (bldGo d.interval 6 0 200 1 R).2.2.2, 201 ≤ y.1 ∧ y.1 ≤ 300 := fun y hy => by
    have hm : y.1 ∈ (bldGo d.interval 6 0 200 1 R).2.2.2.map (·.1) := List.mem_map_of_mem hy
    rw [r1] at hm
    obtain ⟨k, hk, e⟩ := List.mem_map.1 hm
    have := List.mem_range.1 hk
    omega
  have hnd : ((bldW d (bldGo d.interval 6 0 200 1 R)).map (·.1)).Nodup := by
    unfold bldW
    rw [List.map_map]
    show ((bldGo d.interval 6 0 200 1 R).2.2.2.map (·.1)).Nodup
    rw [r1]
    unfold List.Nodup
    rw [List.pairwise_map]
    exact (List.pairwise_lt_range (n := _)).imp (fun hab e => by omega)
  have hld : ∀ y ∈ (bldGo d.interval 6 0 200 1 R).2.2.2, loadD (putsP [[]] (bldW d (bldGo d.interval 6 0 200 1 R))) d y.1 y.2.level = (y.2, 0) := fun y hy => by
    refine load_enc ?_ (r2 y hy).1
    exact puts_self (bldW d (bldGo d.interval 6 0 200 1 R)) [[]] hnd (fun x hx => by
      obtain ⟨z, hz, rfl⟩ := List.mem_map.1 hx
      have := hpg z hz
      simp only; omega) (y.1, encNS d.interval y.2) (List.mem_map_of_mem hy)
  have := bld_run (M := putsP [[]] (bldW d (bldGo d.interval 6 0 200 1 R))) (d := d) hz 6 0 200 1 ([([], 1)], []) (R.map fun r => (r, ([r], []))) (by omega) (by rw [List.length_map]; omega) (by decide) ⟨⟨[], rfl⟩, rfl⟩ (fun t ht => by
    obtain ⟨r, hr, rfl⟩ := List.mem_map.1 ht
    obtain ⟨a1, a2, a3⟩ := hR r hr
    exact ⟨⟨⟨r.1, rfl⟩, rfl⟩, rfl, a1, a2, a3⟩) (by rw [hi]; exact hs) (by omega) (by rw [List.length_map]; omega) (by rw [hm1]; exact hld)
  rw [hm1, hi] at this
  exact this
end Dsd
/- The walk of package index's buildable, where it holds. -/
namespace Go.Proofs.YtolmoknjmdmpgaaGreat
open Go.RowKit Dsd
set_option maxRecDepth 100000 in
theorem notBase_any (x : Int) (w : World) (h1 : 1 ≤ x) (h2 : x ≤ 16777208) : Calls Tryz.prog 60 #[.int .i64 x] w fun e w' => e = .returned (.bool false) ∧ w' = w := by
  have HB := Lib.hid (isBase_any x w)
  rw [decide_eq_true h1, decide_eq_true h2] at HB
  clear h1 h2
  go_enter Tryz.func60, Tryz.ntmps60
  go_wp2_with (go_at_call 45; refine HB.out.mono ?_; rintro e w1 ⟨rfl, rfl⟩)
  go_ret
  exact ⟨rfl, rfl⟩
set_option maxRecDepth 100000 in
set_option maxHeartbeats 1000000 in
theorem IndexNB_any (q : Option Addr) (cap n : Nat) (L : List Int) (w : World) (hi : Ints w q L) (hn : L.length = n) (hm : n ≤ 1000000) (hb : ∀ x ∈ L, 1 ≤ x ∧ x ≤ 16777208) :
    Calls Tryz.prog 79 #[.slice q n cap, .func (.func 60) #[] #[]] w fun e w' => e = .returned (.int .i64 (-1)) ∧ w' = w := by
  have Hi := Lib.hid hi
  have Hb := Lib.hid hb
  clear hi hb
  subst hn
  go_enter Tryz.func79, Tryz.ntmps79
  go_wp2_with fail
  obtain ⟨wo, rfl⟩ : ∃ wo : World, wo = w := ⟨_, rfl⟩
  go_loopw [8] (fun i wr => ∃ k : Nat, k ≤ L.length ∧ i = .int .i64 k ∧ wr = wo) (fun i _ => L.length - (intOf i).toNat)
  case atStart => exact ⟨0, Nat.zero_le _, rfl, rfl⟩
  case round =>
    obtain ⟨k, hk, rfl, rfl⟩ := hrel
    by_cases hlt : k < L.length
    · have hltI : (k : Int) < L.length := by omega
      obtain ⟨b, off, rfl, hbl, hc⟩ := Hi.out.at k hlt
      have hck := hc k hlt
      have hx : L.getD k 0 ∈ L := by
        have e : L.getD k 0 = L[k] := by simp [List.getD, hlt]
        rw [e]; exact List.getElem_mem _
      obtain ⟨x1, x2⟩ := Hb.out _ hx
      clear hc hx
      generalize L.getD k 0 = x at *
      have HN := Lib.hid (fun W => notBase_any x W x1 x2)
      clear x1 x2
      go_wp2_with (go_at_call 60; refine (HN.out _).mono ?_; rintro e w1 ⟨rfl, rfl⟩)
      go_roundw
      case rel => exact ⟨k + 1, by omega, by go_num, by first | rfl | trivial⟩
      case measure => simp [intOf]; omega
    · have hltI : decide ((k : Int) < L.length) = false := by simp; omega
      go_wp2
      go_ret
      exact ⟨rfl, by first | rfl | trivial⟩
set_option maxRecDepth 100000 in
theorem ContNB_any (q : Option Addr) (cap n : Nat) (L : List Int) (w : World) (hi : Ints w q L) (hn : L.length = n) (hm : n ≤ 1000000) (hb : ∀ x ∈ L, 1 ≤ x ∧ x ≤ 16777208) :
    Calls Tryz.prog 59 #[.slice q n cap, .func (.func 60) #[] #[]] w fun e w' => e = .returned (.bool false) ∧ w' = w := by
  have HI := Lib.hid (IndexNB_any q cap n L w hi hn hm hb)
  clear hi hn hm hb
  go_enter Tryz.func59, Tryz.ntmps59
  go_wp2_with (go_at_call 79; refine HI.out.mono ?_; rintro e w1 ⟨rfl, rfl⟩)
  go_ret
  exact ⟨rfl, rfl⟩
set_option maxRecDepth 100000 in
set_option maxHeartbeats 2000000 in
theorem buildable_any (h : Hd) (d : DS) (q : Option Addr) (cb nb : Nat) (BA : List Int) (p : Option Addr) (cap n : Nat) (bs : List (List UInt8)) (w : World) (hi : Ints w q BA) (hbl : BA.length = nb) (hs : Strs w p bs) (hn : bs.length = n) (hnb : nb = n + 1) (hn4 : n ≤ 1000) (hk : keyedB d = true) (hf : 0 ≤ h.fin ∧ h.fin ≤ 16777152)
    (hbase : ∀ x ∈ BA, 1 ≤ x ∧ x ≤ 16777208) (hne : ∀ s ∈ bs, s ≠ [] ∧ s.length ≤ 32) (hord : ∀ i, 0 < i → i < bs.length → bl (bs.getD (i - 1) []) (bs.getD i []) = true) :
    Calls Tryz.prog 40 #[.agg #[.int .i64 h.applied, .int .i64 h.count, .int .i64 h.fin, .int .i64 h.root, .int .i64 h.height, .int .i64 h.splits, .int .i64 h.areas], .agg #[.int .i64 d.id, .int .i64 d.org, .int .i64 d.format, .int .i64 d.length, .int .i64 d.block, .int .i64 d.keyAt, .int .i64 d.keyLength, .int .i64 d.interval, .int .i64 d.area, .int .i64 d.freeInterval, .int .i64 d.freeArea, .int .i64 d.base, .int .i64 d.altAt, .int .i64 d.altLength, .bool d.unique, .int .i64 d.cls, .string ⟨d.volume.toArray⟩, .string ⟨d.owner.toArray⟩, .int .i64 d.created, .int .i64 d.expires, .bool d.archived], .slice q nb cb, .slice p n cap] w fun e w' => e = .returned (.bool true) ∧ Ext w w' := by
  have hdd := hd_ds w h d
  have HD : Hid (∀ W, Calls Tryz.prog 50 #[.agg #[.int .i64 h.applied, .int .i64 h.count, .int .i64 h.fin, .int .i64 h.root, .int .i64 h.height, .int .i64 h.splits, .int .i64 h.areas], .agg #[.int .i64 d.id, .int .i64 d.org, .int .i64 d.format, .int .i64 d.length, .int .i64 d.block, .int .i64 d.keyAt, .int .i64 d.keyLength, .int .i64 d.interval, .int .i64 d.area, .int .i64 d.freeInterval, .int .i64 d.freeArea, .int .i64 d.base, .int .i64 d.altAt, .int .i64 d.altLength, .bool d.unique, .int .i64 d.cls, .string ⟨d.volume.toArray⟩, .string ⟨d.owner.toArray⟩, .int .i64 d.created, .int .i64 d.expires, .bool d.archived]] W fun e w' => e = .returned (.bool true) ∧ Ext W w') := Lib.hid (fun W => by
    have := described22_any h d W
    rw [hk, decide_eq_true hf.1, decide_eq_true hf.2] at this
    exact this)
  have HBo : Hid (∀ (s : List UInt8) W, s ≠ [] → s.length ≤ 32 → Calls Tryz.prog 47 #[.string ⟨s.toArray⟩] W fun e w' => e = .returned (.bool true) ∧ Ext W w') := Lib.hid (fun s W h1 h2 => by
    have := isBound_any s W
    rw [decide_eq_true (show (s.length : Int) ≤ 32 by omega), show s.isEmpty = false by simpa using h1] at this
    exact this.mono (fun e w' ⟨a1, a2⟩ => ⟨a1, by rw [a2]; exact Ext.refl _⟩))
  have HC := Lib.hid (fun W (e : Ext w W) => ContNB_any q cb nb BA W (hi.ext e) hbl (by omega) hbase)
  have Hs := Lib.hid hs
  have Hne := Lib.hid hne
  have Hord := Lib.hid hord
  have Hn := Lib.hid hn
  have hw1 : IntKind.i64.wrap (((nb : Nat) : Int) - 1) = ((n : Nat) : Int) := by rw [IntWalk.i64_in _ (by omega)]; omega
  have d1 : decide (((nb : Nat) : Int) < 1) = false := by simp; omega
  have d1N : ¬ nb < 1 := by omega
  have d2 : decide ((4096 : Int) < ((nb : Nat) : Int)) = false := by simp; omega
  have d2N : ¬ 4096 < nb := by omega
  have hnn : (((n : Nat) : Int) != ((n : Nat) : Int)) = false := by simp
  clear hi hbl hs hn hk hf hbase hne hord hnb
  go_enter Tryz.func40, Tryz.ntmps40
  go_upto_region 1 with (fail)
  refine wp_name (fun w0 => Ext w w0 ∧ HdAt w0 w.heap.size h ∧ DsAt w0 (w.heap.size + 1) d) hdd ?_
  clear hdd
  rintro w0 ⟨he0, hb1, hb2⟩
  go_upto_region 4 with (first
    | ((with_reducible (show wpList _ _ _ (⟨some 11, _, _, _, _, _⟩ :: _) _ _)); refine wpList_hd (o := ⟨some 11, _, _, _, _, _⟩) rfl (.tmp 4) rfl _ rfl h hb1 ?_)
    | ((with_reducible (show wpList _ _ _ (⟨some 12, _, _, _, _, _⟩ :: _) _ _)); refine wpList_ds (o := ⟨some 12, _, _, _, _, _⟩) rfl (.tmp 5) rfl _ rfl d hb2 ?_)
    | (go_at_call 50; refine (HD.out _).mono ?_; rintro e w1 ⟨rfl, he1⟩))
  have hx1 := he0.trans he1
  clear he0 he1 hb1 hb2
  go_loopw [35] (fun i wr => ∃ k : Nat, k ≤ n ∧ i = .int .i64 k ∧ Ext w1 wr) (fun i _ => n - (intOf i).toNat)
  case atStart => exact ⟨0, Nat.zero_le _, rfl, Ext.refl _⟩
  case round =>
    obtain ⟨k, hk, rfl, hext⟩ := hrel
    have hxk := hx1.trans hext
    by_cases hlt : k < n
    · have hltI : (k : Int) < n := by omega
      have hkl : k < bs.length := by rw [Hn.out]; exact hlt
      obtain ⟨b, off, rfl, hbl, hc⟩ := (Hs.out.ext hxk).at k hkl
      have hck := hc k hkl
      have hx : bs.getD k [] ∈ bs := by
        have e : bs.getD k [] = bs[k] := by simp [List.getD, hkl]
        rw [e]; exact List.getElem_mem _
      obtain ⟨x1, x2⟩ := Hne.out _ hx
      by_cases hk0 : k = 0
      · subst hk0
        have HBk := Lib.hid (fun W => HBo.out (bs.getD 0 []) W x1 x2)
        clear hc hx x1 x2
        generalize bs.getD 0 [] = s at *
        rw [Nat.add_zero] at hck
        go_wp2_with (go_at_call 47; refine (HBk.out _).mono ?_; rintro e w2 ⟨rfl, he2⟩)
        go_roundw
        case rel => exact ⟨0 + 1, by omega, by go_num, hext.trans he2⟩
        case measure => simp [intOf]; omega
      · have hk0I : (0 : Int) < (k : Int) := by omega
        have hk0N : 0 < k := by omega
        have hcp := hc (k - 1) (by omega)
        have hwk : IntKind.i64.wrap ((k : Int) - 1) = ((k - 1 : Nat) : Int) := by rw [IntWalk.i64_in _ (by omega)]; omega
        have hkm : ((k - 1 : Nat) : Int) < ((n : Nat) : Int) := by omega
        have hkmN : k - 1 < n := by omega
        have ho := Hord.out k hk0N hkl
        have HBk := Lib.hid (fun W => HBo.out (bs.getD k []) W x1 x2)
        clear hc hx x1 x2
        generalize bs.getD k [] = s at *
        generalize bs.getD (k - 1) [] = s0 at *
        obtain ⟨k1, hk1⟩ : ∃ k1, k1 = k - 1 := ⟨_, rfl⟩
        rw [← hk1] at hcp hwk hkm hkmN
        have Hk1 := Lib.hid hk1
        clear hk1
        go_upto_region 6 with fail
        go_wp2_with (go_at_call 47; refine (HBk.out _).mono ?_; rintro e w2 ⟨rfl, he2⟩; have hcp2 := (he2.cell _ _ hbl).trans hcp; have hbl2 := Nat.lt_of_lt_of_le hbl he2.size)
        go_roundw
        case rel => exact ⟨k + 1, by omega, by go_num, hext.trans he2⟩
        case measure => simp [intOf]; omega
    · have hltI : decide ((k : Int) < n) = false := by simp; omega
      go_wp2_with (go_at_call 59; refine (HC.out _ hxk).mono ?_; rintro e w2 ⟨rfl, rfl⟩)
      go_ret
      exact ⟨rfl, hxk⟩
end Go.Proofs.YtolmoknjmdmpgaaGreat
/- The walk of package index's writer.level. -/
namespace Dsd
/-- Bounds, each with the page behind it. -/
def pairsB (PA : List Int) (BO : List (List UInt8)) : List (List UInt8 × Int) := BO.zip (PA.drop 1)
theorem pairs_drop {PA : List Int} {BO : List (List UInt8)} (hl : PA.length = BO.length + 1) {j : Nat} (h1 : 1 ≤ j) (h2 : j < PA.length) : (pairsB PA BO).drop (j - 1) = (BO.getD (j - 1) [], PA.getD j 0) :: (pairsB PA BO).drop j := by
  have hz : (pairsB PA BO).length = BO.length := by unfold pairsB; rw [List.length_zip, List.length_drop]; omega
  have hj : j - 1 < (pairsB PA BO).length := by omega
  rw [List.drop_eq_getElem_cons hj, show j - 1 + 1 = j by omega]
  congr 1
  have e0 : (pairsB PA BO)[j - 1] = (BO.zip (PA.drop 1))[j - 1]'(by rw [List.length_zip, List.length_drop]; omega) := rfl
  rw [e0, List.getElem_zip]
  have e1 : BO.getD (j - 1) [] = BO[j - 1]'(by omega) := by simp [List.getD, show j - 1 < BO.length by omega]
  have e2 : PA.getD j 0 = PA[j] := by simp [List.getD, h2]
  rw [e1, e2]
  congr 1
  rw [List.getElem_drop]
  congr 1
  omega
theorem pairs_end {PA : List Int} {BO : List (List UInt8)} (hl : PA.length = BO.length + 1) : (pairsB PA BO).drop (PA.length - 1) = [] := by
  have hz : (pairsB PA BO).length = BO.length := by unfold pairsB; rw [List.length_zip, List.length_drop]; omega
  exact List.drop_eq_nil_of_le (by omega)
theorem pushE_set (b : List UInt8) (p : Int) : ∀ (E : List Ent), E ≠ [] → pushE b p E = (E ++ [([], p)]).set (E.length - 1) (b, (entAt E (E.length - 1)).2)
  | [], h => absurd rfl h
  | [x], _ => rfl
  | x :: y :: E, _ => by
    have ih := pushE_set b p (y :: E) (by simp)
    have e : pushE b p (x :: y :: E) = x :: pushE b p (y :: E) := rfl
    rw [e, ih]
    simp [entAt, List.getD]
theorem entCells_setB : ∀ (L : List Ent) (i : Nat) (s : List UInt8), i < L.length → entCells (L.set i (s, (entAt L i).2)) = (entCells L).set (i * 2) (.string ⟨s.toArray⟩)
  | x :: L, 0, s, _ => by simp [entCells, entAt]
  | x :: L, i + 1, s, h => by
    have ih := entCells_setB L i s (by simpa using h)
    have e : entAt (x :: L) (i + 1) = entAt L i := by simp [entAt, List.getD]
    rw [e, List.set_cons_succ, entCells_cons, ih, entCells_cons, show (i + 1) * 2 = i * 2 + 1 + 1 by omega, List.set_cons_succ, List.set_cons_succ]
/-- A node with its entries' row. -/
abbrev NdX := Nd × Option Go.Addr × Nat
def ndC (L : List NdX) : List Go.Value := L.flatMap fun x => [.int .i64 x.1.level, .int .i64 x.1.next, .slice x.2.1 x.1.ents.length x.2.2]
theorem ndC_snoc (L : List NdX) (x : NdX) : ndC (L ++ [x]) = ndC L ++ [.int .i64 x.1.level, .int .i64 x.1.next, .slice x.2.1 x.1.ents.length x.2.2] := by
  unfold ndC; rw [List.flatMap_append]; rfl
end Dsd
namespace Go.Proofs.YtolmoknjmdmpgaaGreat
open Go.RowKit Dsd
theorem infoNdF : (Tryz.prog.info? 53).map (fun i => (i.zero, i.size, i.bytes)) = some (some (.agg #[.int .i64 0, .int .i64 0, .slice none 0 0]), 3, 40) := by kernel_rfl
theorem neBuilt1 (p : Int) : Tryz.prog.built 75 [(1, .int .i64 p)] = some #[.string ⟨#[]⟩, .int .i64 p] := by kernel_rfl
theorem own_setE {w : World} {base g n cap i : Nat} {L : List Ent} {s : List UInt8} (h : w.ownsRow base 75 2 (.slice (some ⟨g, 0, none⟩) n cap) n (entCells L)) (hi : i < L.length) :
    (w.setCell ⟨g, i * 2, none⟩ (.string ⟨s.toArray⟩)).ownsRow base 75 2 (.slice (some ⟨g, 0, none⟩) n cap) n (entCells (L.set i (s, (entAt L i).2))) ∧ (∃ cs, Blk w g (.cells cs 75)) ∧ base ≤ g := by
  obtain ⟨hl, ⟨h0, _⟩ | ⟨g', cap', cur, e, hb, hg, h1, h2, h3, h4⟩⟩ := h
  · cases h0
  · cases e
    have hgb : Blk w g (.cells cur 75) := hg
    refine ⟨⟨by rw [entCells_len] at hl ⊢; simpa using hl, .inr ⟨g, cap, cur.setIfInBounds (i * 2) (.string ⟨s.toArray⟩), rfl, hb, Blk.setCell hgb, h1, h2, by simp [h3], ?_⟩⟩, ⟨cur, hgb⟩, hb⟩
    rw [Array.toList_setIfInBounds, List.take_set, h4, entCells_setB L i s hi]
def NdRows (w : World) (L : List NdX) : Prop := ∀ x ∈ L, w.ownsRow 0 75 2 (.slice x.2.1 x.1.ents.length x.2.2) x.1.ents.length (entCells x.1.ents)
theorem NdRows.ext {w w' : World} {L : List NdX} (h : NdRows w L) (e : Ext w w') : NdRows w' L := fun x hx => own_ext (h x hx) e
def LevOut (r : List Nd × List (List UInt8)) (w : World) (e : Ending) (w' : World) : Prop := Ext w w' ∧ ∃ (X : List NdX) (qn : Option Addr) (cn : Nat) (qs : Option Addr) (cs : Nat), X.map (·.1) = r.1 ∧ e = .returned (.tuple #[.slice qn X.length cn, .slice qs r.2.length cs]) ∧
  w'.ownsRow w.heap.size 53 3 (.slice qn X.length cn) X.length (ndC X) ∧ NdRows w' X ∧ w'.ownsRow w.heap.size 9 1 (.slice qs r.2.length cs) r.2.length (r.2.map fun s : List UInt8 => Value.string ⟨s.toArray⟩)
set_option maxRecDepth 100000 in
set_option maxHeartbeats 4000000 in
theorem level_any (wb : Nat) (lv z : Int) (qp : Option Addr) (cp nP : Nat) (PA : List Int) (qb : Option Addr) (cb nB : Nat) (BO : List (List UInt8)) (w : World) (hp : Ints w qp PA) (hpl : PA.length = nP) (hb : Strs w qb BO) (hbl : BO.length = nB) (hnP : nP = nB + 1) (hn : nP ≤ 1000)
    (hz : w.cell? ⟨wb, 14, none⟩ = some (.int .i64 z)) (hwb : wb < w.heap.size) :
    Calls Tryz.prog 41 #[.pointer (some ⟨wb, 0, none⟩), .int .i64 lv, .slice qp nP cp, .slice qb nB cb] w (LevOut (levGo z lv nP (PA.getD 0 0) (pairsB PA BO)) w) := by
  have Hp := Lib.hid hp
  have Hb := Lib.hid hb
  have Hz := Lib.hid (And.intro hz hwb)
  have Hl := Lib.hid (And.intro hpl (And.intro hbl hnP))
  obtain ⟨T, hT⟩ : ∃ T, T = levGo z lv nP (PA.getD 0 0) (pairsB PA BO) := ⟨_, rfl⟩
  rw [← hT]
  have HT := Lib.hid hT
  have HO : Hid (∀ e w', Ext w w' → (∃ (X : List NdX) (qn : Option Addr) (cn : Nat) (qs : Option Addr) (cs : Nat) (B : List (List UInt8)), X.map (·.1) = T.1 ∧ B = T.2 ∧ e = .returned (.tuple #[.slice qn X.length cn, .slice qs B.length cs]) ∧ w'.ownsRow w.heap.size 53 3 (.slice qn X.length cn) X.length (ndC X) ∧ NdRows w' X ∧ w'.ownsRow w.heap.size 9 1 (.slice qs B.length cs) B.length (B.map fun s : List UInt8 => Value.string ⟨s.toArray⟩)) → LevOut T w e w') := Lib.hid (fun e w' h1 ⟨X, qn, cn, qs, cs, B, a1, a2, a3, a4, a5, a6⟩ => by
    subst a2
    exact ⟨h1, X, qn, cn, qs, cs, a1, a3, a4, a5, a6⟩)
  have hnP0 : 0 < nP := by omega
  clear hp hb hz hwb hpl hbl hT hnP
  generalize LevOut T w = OUT at *
  go_enter Tryz.func41, Tryz.ntmps41
  go_upto_region 4 with fail
  obtain ⟨wo, rfl⟩ : ∃ wo : World, wo = w := ⟨_, rfl⟩
  go_loopw [12, 10, 11] (fun i v10 v11 wr => ∃ (k : Nat) (X : List NdX) (B : List (List UInt8)), k ≤ nP ∧ i = .int .i64 k ∧ (k < nP → ∃ f, nP ≤ f + k ∧ T.1 = X.map (·.1) ++ (levGo z lv f (PA.getD k 0) ((pairsB PA BO).drop k)).1 ∧ T.2 = B ++ (levGo z lv f (PA.getD k 0) ((pairsB PA BO).drop k)).2) ∧ (k = nP → T.1 = X.map (·.1) ∧ T.2 = B) ∧ X.length ≤ k ∧ B.length ≤ k ∧
    wr.ownsRow wo.heap.size 53 3 v10 X.length (ndC X) ∧ NdRows wr X ∧ wr.ownsRow wo.heap.size 9 1 v11 B.length (B.map fun s : List UInt8 => Value.string ⟨s.toArray⟩) ∧ Ext wo wr) (fun i _ _ _ => nP - (intOf i).toNat)
  case atStart => exact ⟨0, [], [], Nat.zero_le _, rfl, fun _ => ⟨nP, by omega, by rw [HT.out]; rfl, by rw [HT.out]; rfl⟩, fun h => by omega, Nat.le_refl _, Nat.le_refl _, World.ownsRow_nil _ _ _ _, (fun x hx => by cases hx), World.ownsRow_nil _ _ _ _, Ext.refl _⟩
  case round =>
    obtain ⟨k, X, B, hk, rfl, h1, h2, hXk, hBk, ho10, hrows, ho11, hext⟩ := hrel
    obtain ⟨qn, cn, rfl⟩ := own_slice ho10
    obtain ⟨qs, cs, rfl⟩ := own_slice ho11
    have HRel := Lib.hid (And.intro h1 (And.intro h2 (And.intro ho10 (And.intro hrows (And.intro ho11 hext)))))
    clear h1 h2 ho10 hrows ho11
    by_cases hlt : k < nP
    · have hltI : (k : Int) < nP := by omega
      obtain ⟨pb, po, rfl, hpbl, hpc⟩ := (Hp.out.ext hext).at k (by rw [Hl.out.1]; exact hlt)
      have hck := hpc k (by rw [Hl.out.1]; exact hlt)
      obtain ⟨n0, hn0⟩ : ∃ n0 : Nd, n0 = ⟨lv, 0, [([], PA.getD k 0)]⟩ := ⟨_, rfl⟩
      have Hn0 := Lib.hid hn0
      generalize hp0 : PA.getD k 0 = p0 at *
      have Hp0 := Lib.hid hp0
      clear hn0 hp0 hpc hext
      go_upto_region 6 with (first
        | ((with_reducible (show wpList _ _ _ (⟨some 24, _, _, _, _, _⟩ :: _) _ _)); refine wpList_bld (o := ⟨some 24, _, _, _, _, _⟩) rfl 75 _ rfl [(1, .int .i64 p0)] rfl _ (neBuilt1 p0) ?_)
        | ((with_reducible (show wpList _ _ _ (⟨some 26, _, _, _, _, _⟩ :: _) _ _)); refine wpList_bld (o := ⟨some 26, _, _, _, _, _⟩) rfl 53 _ rfl [(0, .int .i64 lv), (2, .slice (some ⟨wr.heap.size, 0, none⟩) 1 1)] rfl _ (ndBuilt02 lv _ 1 1) ?_))
      have hx0 := (Ext.alloc wr (.cells #[.string ⟨#[]⟩, .int .i64 p0] 75)).trans (Ext.alloc _ (.cells #[.int .i64 lv, .int .i64 0, .slice (some ⟨wr.heap.size, 0, none⟩) 1 1] 53))
      have he0 := (Ext.alloc (wr.alloc (.cells #[.string ⟨#[]⟩, .int .i64 p0] 75)) (.cells #[.int .i64 lv, .int .i64 0, .slice (some ⟨wr.heap.size, 0, none⟩) 1 1] 53)).blk _ _ (Blk.new wr (.cells #[.string ⟨#[]⟩, .int .i64 p0] 75))
      have hn0' := Blk.new (wr.alloc (.cells #[.string ⟨#[]⟩, .int .i64 p0] 75)) (.cells #[.int .i64 lv, .int .i64 0, .slice (some ⟨wr.heap.size, 0, none⟩) 1 1] 53)
      rw [World.size_alloc] at hn0'
      have hbase := HRel.out.2.2.2.2.2.size
      refine wp_name (fun w1 => Ext wr w1 ∧ Blk w1 (wr.heap.size + 1) (.cells #[.int .i64 n0.level, .int .i64 n0.next, .slice (some ⟨wr.heap.size, 0, none⟩) n0.ents.length 1] 53) ∧ w1.ownsRow wr.heap.size 75 2 (.slice (some ⟨wr.heap.size, 0, none⟩) n0.ents.length 1) n0.ents.length (entCells n0.ents)) ⟨hx0, by rw [Hn0.out]; exact hn0', by rw [Hn0.out]; exact own_of_blk (xs := [.string ⟨#[]⟩, .int .i64 p0]) he0 (Nat.le_refl _) rfl (by show 1 ≤ maxLen; decide)⟩ ?_
      clear hx0 he0 hn0' hck hpbl
      obtain ⟨wi, hwi⟩ : ∃ wi : World, wi = wr := ⟨_, rfl⟩
      rw [← hwi]
      have Hwi := Lib.hid hwi
      generalize hsz : wi.heap.size = sz at *
      rintro w1 ⟨hx1, hb1, ho1⟩
      have HQ1 := Lib.hid (And.intro hx1 (And.intro hb1 ho1))
      clear hx1 hb1 ho1
      go_upto_region 7 with fail
      have hw1k : IntKind.i64.wrap ((k : Int) + 1) = ((k + 1 : Nat) : Int) := by rw [IntWalk.i64_in _ (by omega)]; omega
      go_loopw [12, 11] (fun i v11 wr => ∃ (j : Nat) (n : Nd) (q : Option Addr) (c : Nat), k < j ∧ j ≤ nP ∧ i = .int .i64 j ∧ v11 = .slice qs B.length cs ∧ grpGo z n ((pairsB PA BO).drop (j - 1)) = grpGo z n0 ((pairsB PA BO).drop k) ∧ n.ents.length = j - k ∧ Blk wr (sz + 1) (.cells #[.int .i64 n.level, .int .i64 n.next, .slice q n.ents.length c] 53) ∧ wr.ownsRow sz 75 2 (.slice q n.ents.length c) n.ents.length (entCells n.ents) ∧ Ext wi wr) (fun i _ _ => nP - (intOf i).toNat)
      case atStart => exact ⟨k + 1, n0, some ⟨sz, 0, none⟩, 1, by omega, by omega, by go_num, rfl, by rw [Nat.add_sub_cancel], by rw [Hn0.out]; simp, HQ1.out.2.1, HQ1.out.2.2, HQ1.out.1⟩
      case round =>
        obtain ⟨j, n, q, c, hkj, hj, rfl, rfl, hgr, hnl, hbn, hon, hexi⟩ := hrel
        have hnl1 : 1 ≤ n.ents.length := by omega
        obtain ⟨g, cur, hq, hgB, hgb, hgc, _, _, _⟩ := own_parts hon (by omega)
        subst hq
        have HR2 := Lib.hid (And.intro hgr (And.intro hnl (And.intro hbn (And.intro hon hexi))))
        clear hgr
        by_cases hjl : j < nP
        · have hjlI : (j : Int) < nP := by omega
          obtain ⟨pb2, po2, hqq, hpbl, hpc⟩ := (Hp.out.ext (HRel.out.2.2.2.2.2.trans (by rw [← Hwi.out]; exact hexi))).at j (by rw [Hl.out.1]; exact hjl)
          simp only [Option.some.injEq, Addr.mk.injEq, and_true] at hqq
          obtain ⟨rfl, rfl⟩ := hqq
          have hcj := hpc j (by rw [Hl.out.1]; exact hjl)
          clear hpc
          generalize hpj : PA.getD j 0 = pj at *
          have Hpj := Lib.hid hpj
          have hnl2 : n.ents.length ≤ 1000 := by omega
          have Hmn := Lib.hid hon
          have HexI : Hid (Ext wo wr) := Lib.hid (HRel.out.2.2.2.2.2.trans (by rw [← Hwi.out]; exact hexi))
          clear hpj hon hexi hnl
          go_upto_region 10 with (first
            | ((with_reducible (show wpList _ _ _ (⟨some 35, _, _, _, _, _⟩ :: _) _ _)); refine wpList_row (o := ⟨some 35, _, _, _, _, _⟩) rfl 53 (.tmp 13) rfl _ rfl _ _ _ hbn ndDesc rfl ndSize ?_))
          have hx2 := Ext.alloc wr (.cells #[.int .i64 n.level, .int .i64 n.next, .slice (some ⟨g, 0, none⟩) n.ents.length c] 53)
          have hpbl2 := Nat.lt_of_lt_of_le hpbl hx2.size
          refine wp_name (fun wa => Ext wr wa ∧ Blk wa wr.heap.size (.cells #[.int .i64 n.level, .int .i64 n.next, .slice (some ⟨g, 0, none⟩) n.ents.length c] 53) ∧ wa.cell? ⟨pb, po + j, none⟩ = some (.int .i64 pj) ∧ pb < wa.heap.size) ⟨hx2, Blk.new wr _, (hx2.cell pb (po + j) hpbl).trans hcj, hpbl2⟩ ?_
          obtain ⟨wj, hwj⟩ : ∃ wj : World, wj = wr := ⟨_, rfl⟩
          rw [← hwj]
          have Hwj := Lib.hid hwj
          have hsb1 := Blk.lt hbn
          rw [← hwj] at hsb1
          generalize hs2 : wj.heap.size = s2 at *
          have Hs2 := Lib.hid hs2
          clear hx2 hpbl2 hcj hpbl hwj hs2 hbn hgb
          rintro wa ⟨hx2, hb2, hcj, hpbl⟩
          have hbn2 := hx2.blk _ _ (by rw [Hwj.out]; exact HR2.out.2.2.1)
          have k2 : wa.cell? ⟨sz + 1, 2, none⟩ = some (.slice (some ⟨g, 0, none⟩) n.ents.length c) := Blk.val hbn2 2 _ rfl
          have ls1 := Blk.lt hbn2
          have HCl : Hid (∀ W, Ext wa W → Calls Tryz.prog 61 #[.slice (some ⟨g, 0, none⟩) n.ents.length c] W fun e w' => ∃ v, e = .returned v ∧ Ext W w' ∧ RowsF 75 wa.heap.size 2 n.ents.length (entCells n.ents) v w') := Lib.hid (fun W e => by
            refine (CloneE_any (some ⟨g, 0, none⟩) c n.ents.length (entCells n.ents) W (own_cellsND (own_ext Hmn.out ((show Ext wr wa by rw [← Hwj.out]; exact hx2).trans e))) (entCells_len _) (entCells_one _) (by omega) (fun h => by cases h)).mono ?_
            rintro e' w' ⟨a1, v, a2, a3⟩
            obtain ⟨qv, cv, rfl⟩ := own_slice a3
            exact ⟨_, a2, a1, qv, cv, rfl, own_le a3 e.size⟩)
          have HX2 := Lib.hid (And.intro hx2 (And.intro hb2 hbn2))
          clear hx2 hb2 hbn2
          obtain ⟨m2, hm2⟩ : ∃ m2, m2 = n.ents.length + 1 := ⟨_, rfl⟩
          have Hm2 := Lib.hid hm2
          clear hm2
          refine wp_region_pk 11 [(9, [(2, 38), (8, 44)])] (Ext.refl wa) (by kernel_rfl) (by kernel_rfl) (by kernel_rfl) (by kernel_rfl) (by kernel_rfl) (by kernel_rfl) (gok_any _ _ _) ?_
          simp only [List.take_succ_cons, List.take_zero, List.take_nil, List.drop_succ_cons, List.drop_zero, List.drop_nil, List.map_cons, List.map_nil]
          repeat (first
            | (refine wpPL_step (o := ⟨some 38, _, _, _, _, _⟩) (RowsF 75 wa.heap.size 2 n.ents.length (entCells n.ents)) (RowsF.stable _ _ _ _ _) (.inl (by kernel_rfl)) (by kernel_rfl) (by first | exact .inl rfl | exact .inr ⟨_, _, _, rfl, rfl, rfl⟩) ?_ ?_
               · intro a w' he hr K hK
                 simp [Reads, Oper.looksAt, Op.operands, Call.operands, factAt, Is] at hr
                 go_simp
                 refine (HCl.out w' he).mono ?_
                 rintro e w'' ⟨v, rfl, he', hf⟩
                 exact hK _ _ he' hf
               simp only [setL, List.set_cons_succ, List.set_cons_zero])
            | (refine wpPL_det (o := ⟨some 43, _, _, _, _, _⟩) (v := .agg #[.string ⟨#[]⟩, .int .i64 pj]) (by kernel_rfl) (by first | exact .inl rfl | exact .inr ⟨_, _, _, rfl, rfl, rfl⟩) ?_ ?_
               · intro a w' he hr K hK
                 have h1 := hr 42 (by simp [Oper.looksAt, Op.operands])
                 refine wp_build 75 #[(1, .tmp 42)] rfl ?_ ?_
                 · rw [(show ((#[(1, Operand.tmp 42)] : Array (Nat × Operand)).map fun (i, x) => (i, a.eval x)).toList = [(1, .int .i64 pj)] from by simp only [List.map_toArray, List.map_cons, List.map_nil]; rw [show a.eval (.tmp 42) = _ from h1]), neBuilt1 pj]; rfl
                 · rw [(show ((#[(1, Operand.tmp 42)] : Array (Nat × Operand)).map fun (i, x) => (i, a.eval x)).toList = [(1, .int .i64 pj)] from by simp only [List.map_toArray, List.map_cons, List.map_nil]; rw [show a.eval (.tmp 42) = _ from h1]), neBuilt1 pj]
                   exact hK _ (Ext.refl _)
               simp only [setL, List.set_cons_succ, List.set_cons_zero])
            | (refine wpPL_step (o := ⟨some 44, _, _, _, _, _⟩) (Fresh 1 1 (.cells #[.string ⟨#[]⟩, .int .i64 pj] 75)) (Fresh.stable _ _ _) (.inl (by kernel_rfl)) (by kernel_rfl) (by first | exact .inl rfl | exact .inr ⟨_, _, _, rfl, rfl, rfl⟩) ?_ ?_
               · intro a w' he hr K hK
                 simp [Reads, Oper.looksAt, Op.operands, Call.operands, factAt, Is] at hr
                 go_simp
                 exact hK _ _ (Ext.alloc _ _) (Fresh.new _ _ _ _)
               simp only [setL, List.set_cons_succ, List.set_cons_zero])
            | (refine wpPL_pivot (o := ⟨some 45, _, _, _, _, _⟩) (RowsF 75 wa.heap.size 2 m2 (entCells n.ents ++ [.string ⟨#[]⟩, .int .i64 pj])) (RowsF.stable _ _ _ _ _) (.inl (by kernel_rfl)) (by kernel_rfl) (by first | exact .inl rfl | exact .inr ⟨_, _, _, rfl, rfl, rfl⟩) ?_ ?_
               · intro a w' he hr K hK
                 obtain ⟨q1, c1, h1, ho1⟩ := hr 38 (by simp [Oper.looksAt, Op.operands, Call.operands])
                 obtain ⟨bb, hb1, hb2⟩ := hr 44 (by simp [Oper.looksAt, Op.operands, Call.operands])
                 refine wp_app (.tmp 38) (.tmp 44) 51 75 rfl wa.heap.size (.agg #[.string ByteArray.empty, .int .i64 0]) 2 24 Tryz.underlying51 infoEntA rfl (by decide) _ n.ents.length _ h1 ho1 bb [.string ⟨#[]⟩, .int .i64 pj] hb1 hb2 rfl (by intro u hu; simp at hu; rcases hu with rfl | rfl <;> rfl) (by omega) (by decide) he.size ?_
                 intro v' w'' ho' hg
                 have hbl := Below.of_grown (B := wa.heap.size) hg ho1 (Nat.le_refl _) he.size
                 rw [← Hm2.out] at ho'
                 obtain ⟨q', c', rfl⟩ := own_slice ho'
                 exact hK _ _ hbl ⟨q', c', rfl, ho'⟩ (turned_any _ _ _ _)
               simp only [setL, List.set_cons_succ, List.set_cons_zero])
            | (refine wpPL_move _ _ (by kernel_rfl) (by first | exact .inl rfl | exact .inr ⟨_, _, _, rfl, rfl, rfl⟩) (by first | exact .inl rfl | exact .inr rfl) rfl (by first | exact Is.stable _ | exact RowsF.stable _ _ _ _ _ | exact NoneF.stable _ _ | exact Fresh.stable _ _ _ | exact AppF.stable _ | exact WrF.stable _ | exact PtrF.stable _ _ | exact PlF.stable _ _) (by first | exact .inr (Is.strong _ _ _) | exact .inr (AppF.strong _ _ _ _ (by decide)) | exact .inr (WrF.strong _ _ _ _ (by decide)) | exact .inr (RowsF.strong _ _ _ _ _ _ _ _ (by decide)) | exact .inl (by kernel_rfl)) ?_
               simp only [setL, List.set_cons_succ, List.set_cons_zero, List.getD_cons_succ, List.getD_cons_zero])
            | (apply wpPL_det (by kernel_rfl) (by first | exact .inl rfl | exact .inr ⟨_, _, _, rfl, rfl, rfl⟩)
               · intro a w' he hr K hK
                 simp [Reads, Oper.looksAt, Op.operands, Call.operands, factAt, Is] at hr
                 have hx := he.cell
                 go_simp
                 try go_bits
                 try (rw [if_neg (by omega)]; go_simp)
                 first
                   | exact hK _ (Ext.refl _)
               simp only [setL, List.set_cons_succ, List.set_cons_zero]))
          intro w2 he2
          simp only [killL, killIn, List.foldl_cons, List.foldl_nil, List.set_cons_succ, List.set_cons_zero]
          repeat (first | with_reducible refine rest_is _ _ _ _ ?_ | (with_reducible refine rest_fact _ _ _ _ ?_; intro _ _) | with_reducible refine rest_end _ _ ?_)
          simp only [List.reverse_cons, List.reverse_nil, List.nil_append, List.cons_append]
          rename_i y1 z1 y2 z2 x45 h45
          obtain ⟨q3, c3, rfl, ho3⟩ := h45
          clear z1 z2
          obtain ⟨g3, cur3, hq3, hB3, hgb3, _⟩ := own_parts ho3 (by rw [Hm2.out]; omega)
          subst hq3
          have hb14 := he2.blk _ _ HX2.out.2.1
          have k14 : w2.cell? ⟨s2, 2, none⟩ = some (.slice (some ⟨g, 0, none⟩) n.ents.length c) := Blk.val hb14 2 _ rfl
          have f14 := Blk.free hb14 2
          have l14 := Blk.lt hb14
          go_upto_region 11 with fail
          have hc14 := Chg.setCell (w := w2) (g := s2) (i := 2) (v := .slice (some ⟨g3, 0, none⟩) m2 c3)
          refine wp_name (fun w3 => Ext wj w3 ∧ Blk w3 s2 (.cells #[.int .i64 n.level, .int .i64 n.next, .slice (some ⟨g3, 0, none⟩) m2 c3] 53) ∧ Blk w3 (sz + 1) (.cells #[.int .i64 n.level, .int .i64 n.next, .slice (some ⟨g, 0, none⟩) n.ents.length c] 53) ∧ w3.ownsRow wj.heap.size 75 2 (.slice (some ⟨g3, 0, none⟩) m2 c3) m2 (entCells (n.ents ++ [([], pj)]))) ⟨hc14.ext (HX2.out.1.trans he2) (by rw [Hs2.out]; omega), Blk.setCell hb14, hc14.blk (he2.blk _ _ HX2.out.2.2) (by omega), by
            have e : entCells (n.ents ++ [([], pj)]) = entCells n.ents ++ [.string ⟨#[]⟩, .int .i64 pj] := by simp [entCells]
            rw [e]
            exact own_le (own_chgT ho3 (by decide) hb14 hc14) HX2.out.1.size⟩ ?_
          clear hc14 hb14 k14 f14 l14 ho3 hgb3 hB3 he2 hcj hpbl k2 ls1 HX2 HCl
          rintro w3 ⟨hx3, hb3, hbn3, ho3⟩
          obtain ⟨m1, hm1⟩ : ∃ m1, m1 = n.ents.length - 1 := ⟨_, rfl⟩
          obtain ⟨j1, hj1⟩ : ∃ j1, j1 = j - 1 := ⟨_, rfl⟩
          have hwm : IntKind.i64.wrap (((n.ents.length : Nat) : Int) - 1) = ((m1 : Nat) : Int) := by rw [IntWalk.i64_in _ (by omega)]; omega
          have hwj1 : IntKind.i64.wrap ((j : Int) - 1) = ((j1 : Nat) : Int) := by rw [IntWalk.i64_in _ (by omega)]; omega
          have hm12 : m1 < m2 := by have := Hm2.out; omega
          have hm12I : ((m1 : Nat) : Int) < ((m2 : Nat) : Int) := by omega
          have hj1N : j1 < nB := by have := Hl.out.2.2; omega
          have hj1I : ((j1 : Nat) : Int) < ((nB : Nat) : Int) := by omega
          have hxo3 : Ext wo w3 := HexI.out.trans (by rw [← Hwj.out]; exact hx3)
          obtain ⟨bb, bo, rfl, hbbl, hbc⟩ := (Hb.out.ext hxo3).at j1 (by rw [Hl.out.2.1]; exact hj1N)
          have hcb := hbc j1 (by rw [Hl.out.2.1]; exact hj1N)
          obtain ⟨g4, cur4, hq4, hB4, hgb4, _⟩ := own_parts ho3 (by omega)
          simp only [Option.some.injEq, Addr.mk.injEq, and_true] at hq4
          subst hq4
          have fr := Blk.free hgb4 (m1 * 2)
          have lr := Blk.lt hgb4
          obtain ⟨g5, o5, hq5, _, hrc⟩ := (own_cellsND ho3).at m1 (by simp; omega)
          simp only [Option.some.injEq, Addr.mk.injEq, and_true] at hq5
          obtain ⟨rfl, rfl⟩ := hq5
          have hr0 := (hrc m1 (by simp; omega)).1
          rw [Nat.zero_add] at hr0
          have k14 : w3.cell? ⟨s2, 2, none⟩ = some (.slice (some ⟨g3, 0, none⟩) m2 c3) := Blk.val hb3 2 _ rfl
          have kn : w3.cell? ⟨sz + 1, 2, none⟩ = some (.slice (some ⟨g, 0, none⟩) n.ents.length c) := Blk.val hbn3 2 _ rfl
          have l14 := Blk.lt hb3
          have ln := Blk.lt hbn3
          have Hm1 := Lib.hid hm1
          have Hj1 := Lib.hid hj1
          generalize hbv : BO.getD j1 [] = b at *
          have Hbv := Lib.hid hbv
          generalize (entAt (n.ents ++ [([], pj)]) m1).1 = sold at *
          have HX3 := Lib.hid (And.intro hx3 (And.intro hb3 (And.intro hbn3 (And.intro ho3 hB4))))
          have Hgb4 := Lib.hid hgb4
          have hne3 := ndBlk hgb4 hb3 (by decide)
          have hne4 := ndBlk hgb4 hbn3 (by decide)
          clear hbc hrc hm1 hj1 hbv hx3 hb3 hbn3 ho3 hxo3 hgb4 hB4
          refine wp_region_mk 13 (Ext.refl w3) (by kernel_rfl) (by kernel_rfl) (by kernel_rfl) ?_
          simp only [List.take_succ_cons, List.take_zero, List.take_nil, List.drop_succ_cons, List.drop_zero, List.drop_nil, List.map_cons, List.map_nil]
          repeat (first
            | (refine wpML_move _ _ rfl (by first | exact .inl rfl | exact .inr rfl) rfl (by first | exact Is.stable _ | exact AppF.stable _ | exact WrF.stable _ | exact PtrF.stable _ _ | exact IfcF.stable (Fresh.stable _ _ _) _ | exact PairF.stable (RowF.stable _ _ _ _) _ | exact RowF.stable _ _ _ _ | exact Fresh.stable _ _ _) ?_
               simp only [setL, List.set_cons_succ, List.set_cons_zero, List.getD_cons_succ, List.getD_cons_zero])
            | (refine wpML_moveC _ rfl (by first | exact .inl rfl | exact .inr rfl) ?_
               simp only [setL, List.set_cons_succ, List.set_cons_zero])
            | (apply wpML_det rfl
               · intro a w' he hr K hK
                 simp [Reads, Oper.looksAt, Op.operands, Call.operands, factAt, Is] at hr
                 have hx := he.cell
                 go_simp
                 try go_bits
                 try (rw [if_neg (by omega)]; go_simp)
                 first
                   | exact hK _ (Ext.refl _)
               simp only [setL, List.set_cons_succ, List.set_cons_zero])
            | (apply wpML_det rfl
               · intro a w' he hr K hK
                 simp [Reads, Oper.looksAt, Op.operands, Call.operands, factAt, Fresh] at hr
                 obtain ⟨b, hr1, hr2⟩ := hr
                 go_simp
                 exact hK _ (Ext.refl _)
               simp only [setL, List.set_cons_succ, List.set_cons_zero]))
          intro w2 he2
          repeat (first | with_reducible refine rest_is _ _ _ _ ?_ | (with_reducible refine rest_fact _ _ _ _ ?_; intro _ _) | with_reducible refine rest_end _ _ ?_)
          simp only [List.reverse_cons, List.reverse_nil, List.nil_append, List.cons_append]
          have kr2 := (he2.cell g3 (m1 * 2) lr).trans hr0
          have hgb2 := he2.blk _ _ Hgb4.out
          have fr2 := Blk.free hgb2 (m1 * 2)
          have lr2 := Blk.lt hgb2
          have He2 := Lib.hid he2
          go_upto_region 12 with fail
          have hcR := Chg.setCell (w := w2) (g := g3) (i := m1 * 2) (v := .string ⟨b.toArray⟩)
          obtain ⟨n', hn'⟩ : ∃ n' : Nd, n' = ⟨n.level, n.next, pushE b pj n.ents⟩ := ⟨_, rfl⟩
          have hlen' : n'.ents.length = m2 := by rw [hn', Hm2.out]; exact pushE_len _ _ _
          refine wp_name (fun w4 => Ext wj w4 ∧ Blk w4 s2 (.cells #[.int .i64 n'.level, .int .i64 n'.next, .slice (some ⟨g3, 0, none⟩) m2 c3] 53) ∧ Blk w4 (sz + 1) (.cells #[.int .i64 n.level, .int .i64 n.next, .slice (some ⟨g, 0, none⟩) n.ents.length c] 53) ∧ w4.ownsRow wj.heap.size 75 2 (.slice (some ⟨g3, 0, none⟩) m2 c3) m2 (entCells n'.ents)) ⟨hcR.ext (HX3.out.1.trans He2.out) HX3.out.2.2.2.2, by rw [hn']; exact hcR.blk (He2.out.blk _ _ HX3.out.2.1) (fun e => hne3 e.symm), hcR.blk (He2.out.blk _ _ HX3.out.2.2.1) (fun e => hne4 e.symm), by
            have hE := (own_setE (s := b) (i := m1) (own_ext HX3.out.2.2.2.1 He2.out) (by simp; have := Hm1.out; omega)).1
            have e1 : entAt (n.ents ++ [([], pj)]) m1 = entAt n.ents m1 := by
              have := Hm1.out
              simp [entAt, List.getD, List.getElem?_append_left (show m1 < n.ents.length by omega)]
            have e2 : pushE b pj n.ents = (n.ents ++ [([], pj)]).set m1 (b, (entAt n.ents m1).2) := by
              rw [Hm1.out]
              exact pushE_set b pj n.ents (List.length_pos_iff.1 (by omega))
            rw [e1, ← e2] at hE
            rw [hn']
            exact hE⟩ ?_
          have Hn' := Lib.hid hn'
          have Hlen' := Lib.hid hlen'
          clear hcR hgb2 fr2 lr2 kr2 he2 fr lr hr0 k14 kn l14 ln HX3 He2 hne3 hne4 hn' hlen' Hgb4
          rintro w4 ⟨hx4, hb4, hbn4, ho4⟩
          have hxo4 : Ext wo w4 := HexI.out.trans (by rw [← Hwj.out]; exact hx4)
          have kz : w4.cell? ⟨wb, 14, none⟩ = some (.int .i64 z) := (hxo4.cell _ _ Hz.out.2).trans Hz.out.1
          have lz : wb < w4.heap.size := Nat.lt_of_lt_of_le Hz.out.2 hxo4.size
          have HVa : Hid (∀ W, Ext w4 W → Calls Tryz.prog 62 #[.int .i64 z, .agg #[.int .i64 n'.level, .int .i64 n'.next, .slice (some ⟨g3, 0, none⟩) m2 c3]] W fun e w' => e = .returned (.bool (nodeFits z n')) ∧ Ext W w') := Lib.hid (fun W e => by
            have := ValidN_any z (some ⟨g3, 0, none⟩) c3 n' W (own_cellsND (own_ext ho4 e)) (by rw [Hlen'.out, Hm2.out]; omega)
            unfold ndV at this
            rw [Hlen'.out] at this
            exact this)
          generalize hfits : nodeFits z n' = fits at *
          have Hfits := Lib.hid hfits
          have HX4 := Lib.hid (And.intro hx4 (And.intro hb4 (And.intro hbn4 (And.intro ho4 hxo4))))
          clear hfits hx4 hbn4 ho4 hxo4
          refine wp_region_mk 200 (Ext.refl w4) (by kernel_rfl) (by kernel_rfl) (by kernel_rfl) ?_
          simp only [List.take_succ_cons, List.take_zero, List.take_nil, List.drop_succ_cons, List.drop_zero, List.drop_nil, List.map_cons, List.map_nil]
          repeat (first
            | (refine wpML_det (o := ⟨some 65, _, _, _, _, _⟩) (v := .agg #[.int .i64 n'.level, .int .i64 n'.next, .slice (some ⟨g3, 0, none⟩) m2 c3]) rfl ?_ ?_
               · intro a w' he hr K hK
                 simp [Reads, Oper.looksAt, Op.operands, factAt, Is] at hr
                 exact wp_load_row 53 (.tmp 14) rfl (s2) (by go_simp) _ _ _ _ (he.blk _ _ hb4) ndDesc rfl ndSize (hK _ (Ext.refl _))
               simp only [setL, List.set_cons_succ, List.set_cons_zero])
            | (refine wpML_det (o := ⟨some 66, _, _, _, _, _⟩) (v := .bool fits) rfl ?_ ?_
               · intro a w' he hr K hK
                 simp [Reads, Oper.looksAt, Op.operands, Call.operands, factAt, Is] at hr
                 go_simp
                 refine (HVa.out _ he).mono ?_
                 rintro e w'' ⟨rfl, he''⟩
                 exact hK _ he''
               simp only [setL, List.set_cons_succ, List.set_cons_zero])
            | (refine wpML_move _ _ rfl (by first | exact .inl rfl | exact .inr rfl) rfl (by first | exact Is.stable _ | exact AppF.stable _ | exact WrF.stable _ | exact PtrF.stable _ _ | exact IfcF.stable (Fresh.stable _ _ _) _ | exact PairF.stable (RowF.stable _ _ _ _) _ | exact RowF.stable _ _ _ _ | exact Fresh.stable _ _ _) ?_
               simp only [setL, List.set_cons_succ, List.set_cons_zero, List.getD_cons_succ, List.getD_cons_zero])
            | (refine wpML_moveC _ rfl (by first | exact .inl rfl | exact .inr rfl) ?_
               simp only [setL, List.set_cons_succ, List.set_cons_zero])
            | (apply wpML_det rfl
               · intro a w' he hr K hK
                 simp [Reads, Oper.looksAt, Op.operands, Call.operands, factAt, Is] at hr
                 have hx := he.cell
                 go_simp
                 try go_bits
                 try (rw [if_neg (by omega)]; go_simp)
                 first
                   | exact hK _ (Ext.refl _)
               simp only [setL, List.set_cons_succ, List.set_cons_zero])
            | (apply wpML_det rfl
               · intro a w' he hr K hK
                 simp [Reads, Oper.looksAt, Op.operands, Call.operands, factAt, Fresh] at hr
                 obtain ⟨b, hr1, hr2⟩ := hr
                 go_simp
                 exact hK _ (Ext.refl _)
               simp only [setL, List.set_cons_succ, List.set_cons_zero]))
          intro w2 he2
          repeat (first | with_reducible refine rest_is _ _ _ _ ?_ | (with_reducible refine rest_fact _ _ _ _ ?_; intro _ _) | with_reducible refine rest_end _ _ ?_)
          simp only [List.reverse_cons, List.reverse_nil, List.nil_append, List.cons_append]
          have hb5 := he2.blk _ _ HX4.out.2.1
          have hbn5 := he2.blk _ _ HX4.out.2.2.1
          have hxo5 := HX4.out.2.2.2.2.trans he2
          have HXi : Hid (Ext wi w2) := Lib.hid ((show Ext wi wj by rw [Hwj.out]; exact HR2.out.2.2.2.2).trans (HX4.out.1.trans he2))
          have Hon5 := Lib.hid (own_ext HX4.out.2.2.2.1 he2)
          have Hxo5 := Lib.hid hxo5
          obtain ⟨bb2, bo2, hq9, hbbl2, hbc2⟩ := (Hb.out.ext hxo5).at j1 (by rw [Hl.out.2.1]; exact hj1N)
          simp only [Option.some.injEq, Addr.mk.injEq, and_true] at hq9
          obtain ⟨rfl, rfl⟩ := hq9
          have hcb5 := hbc2 j1 (by rw [Hl.out.2.1]; exact hj1N)
          rw [Hbv.out] at hcb5
          have Hmn5 : Hid (w2.ownsRow sz 75 2 (.slice (some ⟨g, 0, none⟩) n.ents.length c) n.ents.length (entCells n.ents)) := Lib.hid (own_ext Hmn.out ((show Ext wr wj by rw [Hwj.out]; exact Ext.refl _).trans (HX4.out.1.trans he2)))
          have hgrN : grpGo z n ((pairsB PA BO).drop (j - 1)) = if nodeFits z n' = true then grpGo z n' ((pairsB PA BO).drop j) else (n, (b, pj) :: (pairsB PA BO).drop j) := by
            have hd := pairs_drop (PA := PA) (BO := BO) (by rw [Hl.out.1, Hl.out.2.1]; exact Hl.out.2.2) (j := j) (by omega) (by rw [Hl.out.1]; exact hjl)
            have eb : BO.getD (j - 1) [] = b := by rw [← Hj1.out]; exact Hbv.out
            rw [hd, eb, Hpj.out, Hn'.out]
            rfl
          have HgN := Lib.hid hgrN
          clear he2 hb4 kz lz HVa hbc2 hgrN hcb hbbl hxo5
          cases fits
          case' true =>
            go_wp2_with (first
              | ((with_reducible (show wpList _ _ _ (⟨some 76, _, _, _, _, _⟩ :: _) _ _)); refine wpList_row (o := ⟨some 76, _, _, _, _, _⟩) rfl 53 (.tmp 14) rfl _ rfl _ _ _ hb5 ndDesc rfl ndSize ?_)
              | (refine wpList_put rfl 53 (.tmp 13) (.tmp 76) rfl _ #[.int .i64 n'.level, .int .i64 n'.next, .slice (some ⟨g3, 0, none⟩) m2 c3] rfl rfl _ _ hbn5 ndSize rfl (by simp [Value.oneCell']) ?_; intro w6 hn6 hc6))
            refine ⟨⟨j + 1, n', some ⟨g3, 0, none⟩, c3, by omega, by omega, by go_num, rfl, ?_, ?_, ?_, ?_, ?_⟩, ?_⟩
            · rw [Nat.add_sub_cancel, ← HR2.out.1, HgN.out, if_pos Hfits.out]
            · have := Hlen'.out; have := Hm2.out; have := HR2.out.2.1; omega
            · rw [Hlen'.out]; exact hn6
            · rw [Hlen'.out]; exact own_le (own_chgT Hon5.out (by decide) hbn5 hc6) (by rw [Hs2.out]; omega)
            · exact hc6.ext HXi.out (by omega)
            · simp [intOf]; omega
          have Hxs := Lib.hid (own_ext HRel.out.2.2.2.2.1 (by rw [← Hwi.out]; exact HXi.out))
          have hsw2 : wo.heap.size ≤ w2.heap.size := Hxo5.out.size
          go_upto_region 15 with (at_builtin; go_must (refine wpList_app rfl (.tmp 68) (.tmp 74) 22 9 rfl wo.heap.size (.string ByteArray.empty) 1 16 Tryz.underlying22 infoStr rfl (by decide) _ B.length _ rfl (own_ext Hxs.out (Ext.alloc w2 _)) _ [.string ⟨b.toArray⟩] rfl (Blk.new w2 _) rfl (by intro u hu; simp at hu; subst hu; rfl) (by omega) (by decide) (by simp; omega) ?_; intro v8 w8 hout8 hgr8; have r8 := rty_app (T := 9) hgr8 (own_ext Hxs.out (Ext.alloc w2 _)) (by simp; omega); obtain ⟨qs2, cs2, rfl⟩ := own_slice hout8; have Hr8 := Lib.hid r8; have Hout8 := Lib.hid hout8; clear hout8 hgr8 r8))
          have hxa8 := Ext.alloc w2 (.cells #[.string ⟨b.toArray⟩] 9)
          have hxo2 := HXi.out
          rw [Hwi.out] at hxo2
          have HZx := Lib.hid (Ext.trans' (Hxo5.out.trans hxa8) Hr8.out.1)
          have hbz := Hr8.out.2 _ _ _ (by decide) (hxa8.blk _ _ hbn5)
          have HZn := Lib.hid (own_rty (own_ext Hmn5.out hxa8) (by decide) Hr8.out)
          have HZN := Lib.hid (own_rty (own_ext (own_ext HRel.out.2.2.1 hxo2) hxa8) (by decide) Hr8.out)
          have HZX : Hid (NdRows w8 X) := Lib.hid (fun x hx => own_rty (own_ext (own_ext (HRel.out.2.2.2.1 x hx) hxo2) hxa8) (by decide) Hr8.out)
          obtain ⟨B2, hB2⟩ : ∃ B2, B2 = B ++ [b] := ⟨_, rfl⟩
          have HZs : Hid (w8.ownsRow wo.heap.size 9 1 (.slice qs2 (B.length + 1) cs2) B2.length (B2.map fun s : List UInt8 => Value.string ⟨s.toArray⟩)) := Lib.hid (by rw [hB2, List.length_append, List.map_append]; exact Hout8.out)
          have HB2 : Hid (B2.length ≤ j) := Lib.hid (by rw [hB2, List.length_append]; simp; omega)
          have HE : Hid ((j < nP → ∃ f, nP ≤ f + j ∧ T.1 = (X ++ [((n, some ⟨g, 0, none⟩, c) : NdX)]).map (·.1) ++ (levGo z lv f (PA.getD j 0) ((pairsB PA BO).drop j)).1 ∧ T.2 = B2 ++ (levGo z lv f (PA.getD j 0) ((pairsB PA BO).drop j)).2) ∧ (j = nP → T.1 = (X ++ [((n, some ⟨g, 0, none⟩, c) : NdX)]).map (·.1) ∧ T.2 = B2)) := Lib.hid (by
            obtain ⟨f, hf, t1, t2⟩ := HRel.out.1 hlt
            obtain ⟨f', rfl⟩ : ∃ f', f = f' + 1 := ⟨f - 1, by omega⟩
            have hL : levGo z lv (f' + 1) p0 ((pairsB PA BO).drop k) = (n :: (levGo z lv f' pj ((pairsB PA BO).drop j)).1, b :: (levGo z lv f' pj ((pairsB PA BO).drop j)).2) := by
              rw [levGo, ← Hn0.out, ← HR2.out.1, HgN.out, if_neg (by rw [Hfits.out]; simp)]
            rw [hL] at t1 t2
            refine ⟨fun _ => ⟨f', by omega, ?_, ?_⟩, fun e => by omega⟩
            · rw [t1, Hpj.out, List.map_append]; simp
            · rw [t2, Hpj.out, hB2]; simp)
          have hszZ := HZx.out.size
          clear hB2 hxa8 hxo2 hbn5 hb5 Hr8 Hout8 Hmn5 Hon5 Hxo5 HXi hcb5 hbbl2
          obtain ⟨WZ, hWZ⟩ : ∃ WZ : World, WZ = w8 := ⟨_, rfl⟩
          subst hWZ
          go_wp2_with (first
            | ((with_reducible (show wpList _ _ _ (⟨some 78, _, _, _, _, _⟩ :: _) _ _)); refine wpList_row (o := ⟨some 78, _, _, _, _, _⟩) rfl 53 (.tmp 13) rfl _ rfl _ _ _ hbz ndDesc rfl ndSize ?_)
            | (at_builtin; go_must (refine wpList_app rfl (.tmp 77) (.tmp 79) 94 53 rfl wo.heap.size (.agg #[.int .i64 0, .int .i64 0, .slice none 0 0]) 3 40 Tryz.underlying94 infoNdF rfl (by decide) _ X.length _ rfl (own_ext HZN.out (Ext.alloc WZ _)) _ [.int .i64 n.level, .int .i64 n.next, .slice (some ⟨g, 0, none⟩) n.ents.length c] rfl (Blk.new WZ _) rfl (by intro u hu; simp at hu; rcases hu with rfl | rfl | rfl <;> rfl) (by omega) (by decide) (by simp; omega) ?_; intro v9 w9 hout9 hgr9; have r9 := rty_app (T := 53) hgr9 (own_ext HZN.out (Ext.alloc WZ _)) (by simp; omega); obtain ⟨qn2, cn2, rfl⟩ := own_slice hout9; have Hr9 := Lib.hid r9; have Hout9 := Lib.hid hout9; clear hout9 hgr9 r9)))
          refine ⟨⟨j, X ++ [(n, some ⟨g, 0, none⟩, c)], B2, hj, rfl, HE.out.1, HE.out.2, by rw [List.length_append]; simp; omega, HB2.out, by rw [List.length_append, ndC_snoc]; exact Hout9.out, (fun x hx => ?_), own_rty (own_ext HZs.out (Ext.alloc WZ _)) (by decide) Hr9.out, Ext.trans' (HZx.out.trans (Ext.alloc WZ _)) Hr9.out.1⟩, ?_⟩
          · rcases List.mem_append.1 hx with hx | hx
            · exact own_rty (own_ext (HZX.out x hx) (Ext.alloc WZ _)) (by decide) Hr9.out
            · simp only [List.mem_singleton] at hx
              subst hx
              exact own_le (own_rty (own_ext HZn.out (Ext.alloc WZ _)) (by decide) Hr9.out) (Nat.zero_le _)
          · simp [intOf]; omega
        · go_upto_region 15 with fail
          have hxo2 := hexi
          rw [Hwi.out] at hxo2
          have hxo := HRel.out.2.2.2.2.2.trans hxo2
          have HZx := Lib.hid hxo
          have hbz := hbn
          have HZn := Lib.hid hon
          have HZN := Lib.hid (own_ext HRel.out.2.2.1 hxo2)
          have HZX : Hid (NdRows wr X) := Lib.hid (HRel.out.2.2.2.1.ext hxo2)
          obtain ⟨B2, hB2⟩ : ∃ B2, B2 = B := ⟨_, rfl⟩
          have HZs : Hid (wr.ownsRow wo.heap.size 9 1 (.slice qs B.length cs) B2.length (B2.map fun s : List UInt8 => Value.string ⟨s.toArray⟩)) := Lib.hid (by rw [hB2]; exact own_ext HRel.out.2.2.2.2.1 hxo2)
          have HB2 : Hid (B2.length ≤ j) := Lib.hid (by rw [hB2]; omega)
          have HE : Hid ((j < nP → ∃ f, nP ≤ f + j ∧ T.1 = (X ++ [((n, some ⟨g, 0, none⟩, c) : NdX)]).map (·.1) ++ (levGo z lv f (PA.getD j 0) ((pairsB PA BO).drop j)).1 ∧ T.2 = B2 ++ (levGo z lv f (PA.getD j 0) ((pairsB PA BO).drop j)).2) ∧ (j = nP → T.1 = (X ++ [((n, some ⟨g, 0, none⟩, c) : NdX)]).map (·.1) ∧ T.2 = B2)) := Lib.hid (by
            obtain ⟨f, hf, t1, t2⟩ := HRel.out.1 hlt
            obtain ⟨f', rfl⟩ : ∃ f', f = f' + 1 := ⟨f - 1, by omega⟩
            have hg0 : grpGo z n ((pairsB PA BO).drop (j - 1)) = (n, []) := by
              have hd := pairs_end (PA := PA) (BO := BO) (by rw [Hl.out.1, Hl.out.2.1]; exact Hl.out.2.2)
              rw [Hl.out.1] at hd
              rw [show j - 1 = nP - 1 by omega, hd]
              rfl
            have hL : levGo z lv (f' + 1) p0 ((pairsB PA BO).drop k) = ([n], []) := by
              rw [levGo, ← Hn0.out, ← HR2.out.1, hg0]
            rw [hL] at t1 t2
            refine ⟨fun h => absurd h hjl, fun _ => ⟨?_, ?_⟩⟩
            · rw [t1, List.map_append]; simp
            · rw [t2, hB2]; simp)
          have hszZ := HZx.out.size
          clear hB2 hxo hxo2 hon hnl hexi
          obtain ⟨WZ, hWZ⟩ : ∃ WZ : World, WZ = wr := ⟨_, rfl⟩
          subst hWZ
          go_wp2_with (first
            | ((with_reducible (show wpList _ _ _ (⟨some 78, _, _, _, _, _⟩ :: _) _ _)); refine wpList_row (o := ⟨some 78, _, _, _, _, _⟩) rfl 53 (.tmp 13) rfl _ rfl _ _ _ hbz ndDesc rfl ndSize ?_)
            | (at_builtin; go_must (refine wpList_app rfl (.tmp 77) (.tmp 79) 94 53 rfl wo.heap.size (.agg #[.int .i64 0, .int .i64 0, .slice none 0 0]) 3 40 Tryz.underlying94 infoNdF rfl (by decide) _ X.length _ rfl (own_ext HZN.out (Ext.alloc WZ _)) _ [.int .i64 n.level, .int .i64 n.next, .slice (some ⟨g, 0, none⟩) n.ents.length c] rfl (Blk.new WZ _) rfl (by intro u hu; simp at hu; rcases hu with rfl | rfl | rfl <;> rfl) (by omega) (by decide) (by simp; omega) ?_; intro v9 w9 hout9 hgr9; have r9 := rty_app (T := 53) hgr9 (own_ext HZN.out (Ext.alloc WZ _)) (by simp; omega); obtain ⟨qn2, cn2, rfl⟩ := own_slice hout9; have Hr9 := Lib.hid r9; have Hout9 := Lib.hid hout9; clear hout9 hgr9 r9)))
          refine ⟨⟨j, X ++ [(n, some ⟨g, 0, none⟩, c)], B2, hj, rfl, HE.out.1, HE.out.2, by rw [List.length_append]; simp; omega, HB2.out, by rw [List.length_append, ndC_snoc]; exact Hout9.out, (fun x hx => ?_), own_rty (own_ext HZs.out (Ext.alloc WZ _)) (by decide) Hr9.out, Ext.trans' (HZx.out.trans (Ext.alloc WZ _)) Hr9.out.1⟩, ?_⟩
          · rcases List.mem_append.1 hx with hx | hx
            · exact own_rty (own_ext (HZX.out x hx) (Ext.alloc WZ _)) (by decide) Hr9.out
            · simp only [List.mem_singleton] at hx
              subst hx
              exact own_le (own_rty (own_ext HZn.out (Ext.alloc WZ _)) (by decide) Hr9.out) (Nat.zero_le _)
          · simp [intOf]; omega
    · have e : k = nP := by omega
      have h2 := HRel.out.2.1 e
      have HF := Lib.hid (HO.out _ wr HRel.out.2.2.2.2.2 ⟨X, qn, cn, qs, cs, B, h2.1.symm, h2.2.symm, rfl, HRel.out.2.2.1, HRel.out.2.2.2.1, HRel.out.2.2.2.2.1⟩)
      clear e h2 HRel
      go_wp2_with fail
      first
        | go_ret2
        | skip
      exact HF.out
end Go.Proofs.YtolmoknjmdmpgaaGreat
/- The walk of package index's Build, where it does not fail (under way). -/
namespace Go.Proofs.YtolmoknjmdmpgaaGreat
open Go.RowKit Dsd
/-- Blocks of a writer, of page writes and of ints turn, behind B. -/
def TIr (B : Nat) (w w' : World) : Prop := Below B w w' ∧ ∀ b cs t, t ≠ 93 → t ≠ 65 → t ≠ 3 → Blk w b (.cells cs t) → Blk w' b (.cells cs t)
theorem TIr.trans {B : Nat} {a b c : World} (h : TIr B a b) (k : TIr B b c) : TIr B a c := ⟨h.1.trans k.1, fun x cs t h1 h2 h3 h4 => k.2 x cs t h1 h2 h3 (h.2 x cs t h1 h2 h3 h4)⟩
theorem TIr.ofT {B : Nat} {a b : World} (h : TWr B a b) : TIr B a b := ⟨h.1, fun x cs t h1 h2 _ h4 => h.2 x cs t h1 h2 h4⟩
theorem TIr.ofI {B : Nat} {a b : World} (h : RTy B 3 a b) : TIr B a b := ⟨h.1, fun x cs t _ _ h3 h4 => h.2 x cs t h3 h4⟩
theorem TIr.ofExt {B : Nat} {a b : World} (h : Ext a b) (hB : B ≤ a.heap.size) : TIr B a b := TIr.ofT (TWr.ofExt h hB)
theorem TIr.own {B : Nat} {w w' : World} {base : Nat} {e : TypeId} {size : Nat} {v : Value} {n : Nat} {xs : List Value} (h : w.ownsRow base e size v n xs) (h1 : e ≠ 93) (h2 : e ≠ 65) (h3 : e ≠ 3) (c : TIr B w w') : w'.ownsRow base e size v n xs := by
  refine ⟨h.1, ?_⟩
  rcases h.2 with hn | ⟨b, cap, cur, rfl, hb, hg, rest⟩
  · exact .inl hn
  · exact .inr ⟨b, cap, cur, rfl, hb, c.2 b cur e h1 h2 h3 hg, rest⟩
/-- Ints, strings that stand whatever a writer does. -/
def StI (B : Nat) (q : Option Addr) (PA : List Int) (w : World) : Prop := ∀ W, TWr B w W → Ints W q PA
def StS (B : Nat) (q : Option Addr) (BO : List (List UInt8)) (w : World) : Prop := ∀ W, TIr B w W → Strs W q BO
theorem StI.old {q : Option Addr} {PA : List Int} {w : World} (h : Ints w q PA) {w' : World} (e : Ext w w') : StI w.heap.size q PA w' := fun _ k => h.ext (Ext.trans' e k.1)
theorem StS.old {q : Option Addr} {BO : List (List UInt8)} {w : World} (h : Strs w q BO) {w' : World} (e : Ext w w') : StS w.heap.size q BO w' := fun _ k => h.ext (Ext.trans' e k.1)
theorem StI.own {B base n c : Nat} {q : Option Addr} {PA : List Int} {w : World} (h : w.ownsRow base 3 1 (.slice q n c) n (intC PA)) : StI B q PA w := fun _ k => path_ints (TWr.own h (by decide) (by decide) k)
theorem StS.own {B base n c : Nat} {q : Option Addr} {BO : List (List UInt8)} {w : World} (h : w.ownsRow base 9 1 (.slice q n c) n (BO.map fun s : List UInt8 => Value.string ⟨s.toArray⟩)) : StS B q BO w := fun _ k => own_strsX (TIr.own h (by decide) (by decide) (by decide) k)
theorem StS.step {B : Nat} {q : Option Addr} {BO : List (List UInt8)} {w w' : World} (h : StS B q BO w) (k : TIr B w w') : StS B q BO w' := fun _ k2 => h _ (k.trans k2)
/-- The writes of nodes. -/
def wrN (d : DS) (N : List (Int × Nd)) : List Wr := N.map fun y => (y.1, encNS d.interval y.2)
end Go.Proofs.YtolmoknjmdmpgaaGreat
/- The law IndexBuilt's own list. No program in sight. -/
namespace Dsd
def basesB (n : Nat) : List Int := (List.range (n + 1)).map fun i : Nat => 1 + (i : Int)
/-- The law's list: the first area, then one for each bound. -/
def itemsB (bs : List (List UInt8)) : List Itm := ([], 1) :: pairsB (basesB bs.length) bs
theorem basesB_len (n : Nat) : (basesB n).length = n + 1 := by simp [basesB]
theorem basesB_at (n : Nat) {i : Nat} (h : i ≤ n) : (basesB n).getD i 0 = 1 + (i : Int) := by
  unfold basesB
  simp [List.getD, show i < n + 1 by omega]
theorem pairs_at (bs : List (List UInt8)) {i : Nat} (h : i < bs.length) : (pairsB (basesB bs.length) bs)[i]? = some (bs.getD i [], 2 + (i : Int)) := by
  unfold pairsB
  rw [List.getElem?_zip_eq_some]
  refine ⟨by simp [List.getD, h], ?_⟩
  rw [List.getElem?_drop]
  unfold basesB
  rw [List.getElem?_map, List.getElem?_range (by omega)]
  simp only [Option.map_some, Option.some.injEq]
  omega
theorem pairs_len (bs : List (List UInt8)) : (pairsB (basesB bs.length) bs).length = bs.length := by
  unfold pairsB
  rw [List.length_zip, List.length_drop, basesB_len]
  omega
theorem itemsB_len (bs : List (List UInt8)) : (itemsB bs).length = bs.length + 1 := by unfold itemsB; rw [List.length_cons, pairs_len]
theorem itemsB_snd (bs : List (List UInt8)) : (itemsB bs).map (·.2) = basesB bs.length := by
  refine List.ext_getElem (by rw [List.length_map, itemsB_len, basesB_len]) (fun k h1 h2 => ?_)
  rw [List.length_map, itemsB_len] at h1
  have e2 : (basesB bs.length)[k] = 1 + (k : Int) := by simp [basesB]
  rw [List.getElem_map, e2]
  cases k with
  | zero => simp [itemsB]
  | succ k =>
    have hk : k < bs.length := by omega
    have := pairs_at bs hk
    rw [List.getElem?_eq_getElem (by rw [pairs_len]; exact hk)] at this
    simp only [itemsB, List.getElem_cons_succ]
    rw [Option.some.inj this]
    simp only
    omega
theorem bounds_lt {bs : List (List UInt8)} (h : ∀ i, 0 < i → i < bs.length → bl (bs.getD (i - 1) []) (bs.getD i []) = true) : ∀ (j i : Nat), i < j → j < bs.length → bl (bs.getD i []) (bs.getD j []) = true
  | 0, i, hi, _ => absurd hi (Nat.not_lt_zero _)
  | j + 1, i, hi, hj => by
    have h1 := h (j + 1) (by omega) hj
    rw [Nat.add_sub_cancel] at h1
    by_cases e : i = j
    · rw [e]; exact h1
    · exact bl_trans (bounds_lt h j i (by omega) (by omega)) h1
theorem itemsB_srt {bs : List (List UInt8)} (h0 : ∀ s ∈ bs, s ≠ []) (h : ∀ i, 0 < i → i < bs.length → bl (bs.getD (i - 1) []) (bs.getD i []) = true) : Srt (itemsB bs) := by
  unfold itemsB Srt
  rw [List.pairwise_cons]
  have hat : ∀ k (hk : k < (pairsB (basesB bs.length) bs).length), ((pairsB (basesB bs.length) bs)[k]).1 = bs.getD k [] := fun k hk => by
    have hk2 := hk
    rw [pairs_len] at hk2
    have := pairs_at bs hk2
    rw [List.getElem?_eq_getElem hk] at this
    rw [Option.some.inj this]
  refine ⟨fun y hy => ?_, List.pairwise_iff_getElem.2 fun i j hi hj hij => ?_⟩
  · obtain ⟨k, hk, rfl⟩ := List.mem_iff_getElem.1 hy
    rw [hat k hk]
    rw [pairs_len] at hk
    have e : bs.getD k [] = bs[k] := by simp [List.getD, hk]
    rw [e]
    exact bl_pos (h0 _ (List.getElem_mem hk))
  · rw [hat i hi, hat j hj]
    rw [pairs_len] at hj
    exact bounds_lt h j i hij hj
theorem itemsB_ok {bs : List (List UInt8)} (hl : bs.length ≤ 100) (h0 : ∀ s ∈ bs, s ≠ [] ∧ s.length ≤ 32) : ∀ r ∈ pairsB (basesB bs.length) bs, pageB r.2 = true ∧ r.1 ≠ [] ∧ r.1.length ≤ 32 := by
  intro r hr
  obtain ⟨k, hk, rfl⟩ := List.mem_iff_getElem.1 hr
  have hk2 := hk
  rw [pairs_len] at hk2
  have := pairs_at bs hk2
  rw [List.getElem?_eq_getElem hk] at this
  rw [Option.some.inj this]
  have e : bs.getD k [] = bs[k] := by simp [List.getD, hk2]
  rw [e]
  obtain ⟨a1, a2⟩ := h0 _ (List.getElem_mem hk2)
  exact ⟨by unfold pageB; simp; omega, a1, a2⟩
end Dsd
/- One level of a built tree, without memory. No program in sight. -/
namespace Dsd
open Go.Proofs.YtolmoknjmdmpgaaGreat (encNE encNS)
theorem lev_pure {d : DS} (hz : isSizeB d.interval = true) {lv fin p : Int} {low : List UInt8} {R : List (List UInt8 × Int)} (h0 : 0 ≤ lv) (hl : lv ≤ 5) (hp : pageB p = true) (hR : ∀ r ∈ R, pageB r.2 = true ∧ r.1 ≠ [] ∧ r.1.length ≤ 32) (hs : Srt ((low, p) :: R)) (hR1 : 1 ≤ R.length) (hf0 : 0 ≤ fin) (hf1 : fin + R.length + 1 ≤ 16777216) :
    (levGo d.interval (lv + 1) (R.length + 1) p R).1.length = (levGo d.interval (lv + 1) (R.length + 1) p R).2.length + 1 ∧ 3 * (levGo d.interval (lv + 1) (R.length + 1) p R).2.length ≤ R.length ∧ (∀ y ∈ numN fin (levGo d.interval (lv + 1) (R.length + 1) p R).1, encNE d.interval y.2 = 0 ∧ 1 ≤ y.2.level) ∧
    pageB (fin + 1) = true ∧ (∀ r ∈ numB (fin + 1) (levGo d.interval (lv + 1) (R.length + 1) p R).2, pageB r.2 = true ∧ r.1 ≠ [] ∧ r.1.length ≤ 32) ∧ ∃ low', Srt ((low', fin + 1) :: numB (fin + 1) (levGo d.interval (lv + 1) (R.length + 1) p R).2) := by
  have hm1 : (R.map fun r => (r, (([r], []) : Part))).map (·.1) = R := by rw [List.map_map]; exact List.map_id R
  have hi : itsOf ((([(low, p)], []) : Part) :: (R.map fun r => (r, (([r], []) : Part))).map (·.2)) = (low, p) :: R := by
    rw [itsOf_cons, List.map_map]
    exact congrArg ((low, p) :: ·) (its_one R)
  obtain ⟨g, G, e1, e2, e3, e4, e5, e6, e7⟩ := lev_run (M := []) (d := d) (l := 0) hz (lv := lv + 1) (by omega) (by omega) (R.length + 1) p ([(low, p)], []) (R.map fun r => (r, ([r], []))) (by simp) hp ⟨⟨low, rfl⟩, rfl⟩ (fun t ht => by
    obtain ⟨r, hr, rfl⟩ := List.mem_map.1 ht
    obtain ⟨a1, a2, a3⟩ := hR r hr
    exact ⟨⟨⟨r.1, rfl⟩, rfl⟩, rfl, a1, a2, a3⟩) (by rw [hi]; exact hs)
  rw [hm1] at e1
  rw [hi] at e6
  rw [List.length_map] at e7
  rw [e1]
  simp only [List.length_cons, List.length_map]
  have hs2 : Srt ((lowOf (itsOf g.2), fin + 1) :: numB (fin + 1) (G.map (·.1))) := by
    have hh := heads_srt (itsOf g.2 :: G.map fun y => itsOf y.2.2) (fun y hy => by
      rcases List.mem_cons.1 hy with rfl | hy
      · exact grp_items e2
      · obtain ⟨z, hz, rfl⟩ := List.mem_map.1 hy
        exact grp_items (e5 z hz).1) (by rw [List.flatten_cons, ← e6]; exact hs)
    have he : ((lowOf (itsOf g.2), fin + 1) :: numB (fin + 1) (G.map (·.1))).map (·.1) = (itsOf g.2 :: G.map fun y => itsOf y.2.2).map lowOf := by
      rw [List.map_cons, numB_fst, List.map_cons, List.map_map]
      congr 1
      exact List.map_congr_left fun y hy => (e5 y hy).2.2.2.1
    unfold Srt
    rw [← he, List.pairwise_map] at hh
    exact hh
  refine ⟨trivial, e7, ?_, by unfold pageB; simp; omega, ?_, ⟨_, hs2⟩⟩
  · intro y hy
    obtain ⟨k, hk, nx, rfl, hnx⟩ := numN_mem hy
    simp only
    have hkl : k < G.length + 1 := by simpa using hk
    match k, hk, hnx, hkl with
    | 0, hk, hnx, _ =>
      have hnx : nx = g.1.next ∨ nx = fin + 1 + ((0 : Nat) : Int) + 1 := hnx
      refine ⟨grp_enc hz (by simpa using e2) ?_ ?_, ?_⟩
      · rcases hnx with h | h
        · rw [e4] at h; omega
        · omega
      · rcases hnx with h | h
        · rw [e4] at h; omega
        · omega
      · show 1 ≤ g.1.level
        rw [e3]; omega
    | k + 1, hk, hnx, hkl =>
      have hkG : k < G.length := by omega
      obtain ⟨q1, q2, q3, _⟩ := e5 _ (List.getElem_mem hkG)
      have eG : (g.1 :: G.map (·.2.1))[k + 1] = G[k].2.1 := by simp
      rw [eG] at hnx ⊢
      refine ⟨grp_enc hz q1 ?_ ?_, ?_⟩
      · rcases hnx with h | h
        · rw [q3] at h; omega
        · omega
      · rcases hnx with h | h
        · rw [q3] at h; omega
        · omega
      · show 1 ≤ G[k].2.1.level
        rw [q2]; omega
  · intro r hr
    obtain ⟨k, hk, rfl⟩ := List.mem_iff_getElem.1 hr
    rw [numB_len, List.length_map] at hk
    have hb := numB_at (fin + 1) (G.map (·.1)) k (by simpa using hk)
    rw [List.getElem?_eq_getElem (by rw [numB_len, List.length_map]; exact hk)] at hb
    rw [Option.some.inj hb]
    obtain ⟨_, _, _, _, q5, q6⟩ := e5 _ (List.getElem_mem hk)
    simp only [List.getElem_map]
    exact ⟨by unfold pageB; simp; omega, q5, q6⟩
/-- The next level's pages and bounds are pairs as numB tells them. -/
theorem numB_pairs : ∀ (f : Int) (L : List (List UInt8)), pairsB ((List.range (L.length + 1)).map fun k : Nat => f + (k : Int)) L = numB f L := by
  intro f L
  refine List.ext_getElem? (fun k => ?_)
  by_cases hk : k < L.length
  · rw [numB_at f L k hk]
    unfold pairsB
    rw [List.getElem?_zip_eq_some]
    refine ⟨by simp [hk], ?_⟩
    rw [List.getElem?_drop, List.getElem?_map, List.getElem?_range (by omega)]
    simp only [Option.map_some, Option.some.injEq]
    omega
  · have h1 : (numB f L)[k]? = none := List.getElem?_eq_none (by rw [numB_len]; omega)
    have h2 : (pairsB ((List.range (L.length + 1)).map fun k : Nat => f + (k : Int)) L)[k]? = none := List.getElem?_eq_none (by unfold pairsB; rw [List.length_zip]; omega)
    rw [h1, h2]
theorem pairs_fst {PA : List Int} {BO : List (List UInt8)} (hl : PA.length = BO.length + 1) : (pairsB PA BO).map (·.1) = BO := by
  unfold pairsB
  exact List.map_fst_zip (by rw [List.length_drop]; omega)
theorem pairs_srt {PA : List Int} {BO : List (List UInt8)} (hl : PA.length = BO.length + 1) {p : Int} (h0 : ∀ s ∈ BO, s ≠ []) (h : ∀ i, 0 < i → i < BO.length → bl (BO.getD (i - 1) []) (BO.getD i []) = true) : Srt (([], p) :: pairsB PA BO) := by
  have e : (([], p) :: pairsB PA BO).map (·.1) = [] :: BO := by rw [List.map_cons, pairs_fst hl]
  have hp : ((([], p) :: pairsB PA BO).map (·.1)).Pairwise fun a b => bl a b = true := by
    rw [e, List.pairwise_cons]
    refine ⟨fun s hs => bl_pos (h0 s hs), List.pairwise_iff_getElem.2 fun i j hi hj hij => ?_⟩
    have e1 : BO.getD i [] = BO[i] := by simp [List.getD, hi]
    have e2 : BO.getD j [] = BO[j] := by simp [List.getD, hj]
    rw [← e1, ← e2]
    exact bounds_lt h j i hij hj
  rw [List.pairwise_map] at hp
  exact hp
theorem pairs_ok {PA : List Int} {BO : List (List UInt8)} (hb : ∀ x ∈ PA, 1 ≤ x ∧ x ≤ 16777208) (h0 : ∀ s ∈ BO, s ≠ [] ∧ s.length ≤ 32) : ∀ r ∈ pairsB PA BO, pageB r.2 = true ∧ r.1 ≠ [] ∧ r.1.length ≤ 32 := by
  intro r hr
  obtain ⟨a1, a2⟩ := List.of_mem_zip hr
  have := hb _ (List.mem_of_mem_drop a2)
  obtain ⟨b1, b2⟩ := h0 _ a1
  exact ⟨by unfold pageB; simp; omega, b1, b2⟩
theorem ndC_at : ∀ (L : List NdX) (k : Nat) (h : k < L.length), (ndC L)[k * 3]? = some (.int .i64 L[k].1.level) ∧ (ndC L)[k * 3 + 1]? = some (.int .i64 L[k].1.next) ∧ (ndC L)[k * 3 + 2]? = some (.slice L[k].2.1 L[k].1.ents.length L[k].2.2)
  | [], k, h => by simp at h
  | x :: L, 0, _ => by simp [ndC]
  | x :: L, k + 1, h => by
    have ih := ndC_at L k (by simpa using h)
    have e : ndC (x :: L) = [.int .i64 x.1.level, .int .i64 x.1.next, .slice x.2.1 x.1.ents.length x.2.2] ++ ndC L := by simp [ndC]
    rw [e, show (k + 1) * 3 = k * 3 + 3 by omega]
    refine ⟨?_, ?_, ?_⟩
    · rw [List.getElem?_append_right (by simp)]
      simpa using ih.1
    · rw [List.getElem?_append_right (by simp)]
      simpa using ih.2.1
    · rw [List.getElem?_append_right (by simp)]
      simpa using ih.2.2
end Dsd
/- The sort of page writes that are in order already: nothing turns. -/
namespace Go.Proofs.YtolmoknjmdmpgaaGreat
open Go.RowKit Dsd
theorem ord_le {L : List Wr} (h : ordTo L L.length) {i j : Nat} (hij : i ≤ j) (hj : j < L.length) : (wrAt L i).1 ≤ (wrAt L j).1 := by
  rcases Nat.lt_or_ge i j with h1 | h1
  · exact h i j h1 hj
  · rw [show i = j by omega]; exact Int.le_refl _
theorem wrAt_num {L : List Wr} (hk : ∀ x ∈ L, 0 ≤ x.1 ∧ x.1 ≤ 20000000) {i : Nat} (h : i < L.length) : 0 ≤ (wrAt L i).1 ∧ (wrAt L i).1 ≤ 20000000 := by
  rw [wrAt_get h]
  exact hk _ (List.getElem_mem h)
set_option maxRecDepth 100000 in
theorem Order2S_any (g z n cap i j : Nat) (ps : Option Addr) (L : List Wr) (w : World) (hn : L.length = n) (hr : RowW w g z L) (hk : ∀ x ∈ L, 0 ≤ x.1 ∧ x.1 ≤ 20000000) (ho : ordTo L L.length) (hij : i ≤ j) (hj : j < n) (hnm : n ≤ 1000) :
    Calls Tryz.prog 126 #[.slice (some ⟨g, 0, none⟩) n cap, .int .i64 i, .int .i64 j, .pointer ps, .func (.func 65) #[] #[]] w fun e w' => e = .returned (.tuple #[.int .i64 i, .int .i64 j]) ∧ Ext w w' := by
  obtain ⟨a0, a1, _⟩ := hr.at i (by omega)
  obtain ⟨b0, b1, hgl⟩ := hr.at j (by omega)
  have hkA := wrAt_num hk (show i < L.length by omega)
  have hkB := wrAt_num hk (show j < L.length by omega)
  have hle := ord_le ho hij (by omega)
  clear hr hk ho hn
  generalize wrAt L i = x at *
  generalize wrAt L j = y at *
  obtain ⟨kx, sx⟩ := x
  obtain ⟨ky, sy⟩ := y
  simp only at a0 a1 b0 b1 hkA hkB hle
  have hd : decide (ky - kx < 0) = false := decide_eq_false (by omega)
  have hiI : (i : Int) < n := by omega
  have hjI : (j : Int) < n := by omega
  have Hle := Lib.hid hle
  clear hle hij
  go_enter Tryz.func126, Tryz.ntmps126
  go_upto_region 1 with (fail)
  refine wp_region_mk 200 (Ext.refl w) (by kernel_rfl) (by kernel_rfl) (by kernel_rfl) ?_
  simp only [List.take_succ_cons, List.take_zero, List.take_nil, List.drop_succ_cons, List.drop_zero, List.drop_nil, List.map_cons, List.map_nil]
  repeat (first
    | (refine wpML_det (o := ⟨some 21, _, _, _, _, _⟩) (v := .int .i64 (ky - kx)) rfl ?_ ?_
       · intro a w' he hr K hK
         simp [Reads, Oper.looksAt, Op.operands, Call.operands, factAt, Is] at hr
         go_simp
         refine (CmpI_any ky kx sy sx _ hkB hkA).mono ?_
         rintro e w'' ⟨rfl, he''⟩
         exact hK _ he''
       simp only [setL, List.set_cons_succ, List.set_cons_zero])
    | (refine wpML_move _ _ rfl (by first | exact .inl rfl | exact .inr rfl) rfl (by first | exact Is.stable _ | exact AppF.stable _ | exact WrF.stable _ | exact PtrF.stable _ _ | exact IfcF.stable (Fresh.stable _ _ _) _ | exact PairF.stable (RowF.stable _ _ _ _) _ | exact RowF.stable _ _ _ _ | exact Fresh.stable _ _ _) ?_
       simp only [setL, List.set_cons_succ, List.set_cons_zero, List.getD_cons_succ, List.getD_cons_zero])
    | (refine wpML_moveC _ rfl (by first | exact .inl rfl | exact .inr rfl) ?_
       simp only [setL, List.set_cons_succ, List.set_cons_zero])
    | (apply wpML_det rfl
       · intro a w' he hr K hK
         simp [Reads, Oper.looksAt, Op.operands, Call.operands, factAt, Is] at hr
         have hx := he.cell
         go_simp
         try go_bits
         try (rw [if_neg (by omega)]; go_simp)
         first
           | exact hK _ (Ext.refl _)
       simp only [setL, List.set_cons_succ, List.set_cons_zero])
    | (apply wpML_det rfl
       · intro a w' he hr K hK
         simp [Reads, Oper.looksAt, Op.operands, Call.operands, factAt, Fresh] at hr
         obtain ⟨b, hr1, hr2⟩ := hr
         go_simp
         exact hK _ (Ext.refl _)
       simp only [setL, List.set_cons_succ, List.set_cons_zero]))
  intro w2 he2
  repeat (first | with_reducible refine rest_is _ _ _ _ ?_ | (with_reducible refine rest_fact _ _ _ _ ?_; intro _ _) | with_reducible refine rest_end _ _ ?_)
  simp only [List.reverse_cons, List.reverse_nil, List.nil_append, List.cons_append]
  go_wp2
  go_ret2
  exact ⟨rfl, he2⟩
set_option maxRecDepth 100000 in
theorem MedianS_any (g z n cap i j k : Nat) (ps : Option Addr) (L : List Wr) (w : World) (hn : L.length = n) (hr : RowW w g z L) (hk : ∀ x ∈ L, 0 ≤ x.1 ∧ x.1 ≤ 20000000) (ho : ordTo L L.length) (hij : i ≤ j) (hjk : j ≤ k) (hkn : k < n) (hnm : n ≤ 1000) :
    Calls Tryz.prog 122 #[.slice (some ⟨g, 0, none⟩) n cap, .int .i64 i, .int .i64 j, .int .i64 k, .pointer ps, .func (.func 65) #[] #[]] w fun e w' => e = .returned (.int .i64 j) ∧ Ext w w' := by
  have H1 := Lib.hid (fun W (e : Ext w W) => Order2S_any g z n cap i j ps L W hn (hr.ext e) hk ho hij (by omega) hnm)
  have H2 := Lib.hid (fun W (e : Ext w W) => Order2S_any g z n cap j k ps L W hn (hr.ext e) hk ho hjk (by omega) hnm)
  clear hr hk ho hn hij hjk hkn hnm
  go_enter Tryz.func122, Tryz.ntmps122
  go_upto_region 2 with (go_at_call 126; refine (H1.out _ (Ext.refl _)).mono ?_; rintro e w1 ⟨rfl, he1⟩)
  go_upto_region 3 with (go_at_call 126; refine (H2.out _ he1).mono ?_; rintro e w2 ⟨rfl, he2⟩)
  go_wp2_with (go_at_call 126; refine (H1.out _ (he1.trans he2)).mono ?_; rintro e w3 ⟨rfl, he3⟩)
  go_ret
  exact ⟨rfl, (he1.trans he2).trans he3⟩
set_option maxRecDepth 100000 in
theorem MedAdjS_any (g z n cap j : Nat) (ps : Option Addr) (L : List Wr) (w : World) (hn : L.length = n) (hr : RowW w g z L) (hk : ∀ x ∈ L, 0 ≤ x.1 ∧ x.1 ≤ 20000000) (ho : ordTo L L.length) (hj1 : 1 ≤ j) (hjn : j + 1 < n) (hnm : n ≤ 1000) :
    Calls Tryz.prog 121 #[.slice (some ⟨g, 0, none⟩) n cap, .int .i64 j, .pointer ps, .func (.func 65) #[] #[]] w fun e w' => e = .returned (.int .i64 j) ∧ Ext w w' := by
  obtain ⟨i, hi⟩ : ∃ i, i = j - 1 := ⟨_, rfl⟩
  obtain ⟨k, hk1⟩ : ∃ k, k = j + 1 := ⟨_, rfl⟩
  have H1 := Lib.hid (MedianS_any g z n cap i j k ps L w hn hr hk ho (by omega) (by omega) (by omega) hnm)
  have hw1 : IntKind.i64.wrap ((j : Int) - 1) = ((i : Nat) : Int) := by rw [IntWalk.i64_in _ (by omega)]; omega
  have hw2 : IntKind.i64.wrap ((j : Int) + 1) = ((k : Nat) : Int) := by rw [IntWalk.i64_in _ (by omega)]; omega
  clear hr hk ho hn hi hk1 hj1 hjn hnm
  go_enter Tryz.func121, Tryz.ntmps121
  go_wp2_with (go_at_call 122; refine H1.out.mono ?_; rintro e w1 ⟨rfl, he1⟩)
  go_ret
  exact ⟨rfl, he1⟩
set_option maxRecDepth 100000 in
set_option maxHeartbeats 1000000 in
theorem ChooseS_any (g z n cap : Nat) (L : List Wr) (w : World) (hn : L.length = n) (hr : RowW w g z L) (hk : ∀ x ∈ L, 0 ≤ x.1 ∧ x.1 ≤ 20000000) (ho : ordTo L L.length) (h13 : 13 ≤ n) (hnm : n ≤ 1000) :
    Calls Tryz.prog 104 #[.slice (some ⟨g, 0, none⟩) n cap, .int .i64 0, .int .i64 n, .func (.func 65) #[] #[]] w fun e w' => ∃ p : Int, e = .returned (.tuple #[.int .i64 p, .int .i64 1]) ∧ Ext w w' := by
  obtain ⟨q, hq⟩ : ∃ q, q = n / 4 := ⟨_, rfl⟩
  obtain ⟨q2, hq2⟩ : ∃ q2, q2 = q * 2 := ⟨_, rfl⟩
  obtain ⟨q3, hq3⟩ : ∃ q3, q3 = q * 3 := ⟨_, rfl⟩
  have hM := fun (ps : Option Addr) W (e : Ext w W) => MedianS_any g z n cap q q2 q3 ps L W hn (hr.ext e) hk ho (by omega) (by omega) (by omega) hnm
  have hA := fun (ps : Option Addr) (j : Nat) (h1 : 1 ≤ j) (h2 : j + 1 < n) W (e : Ext w W) => MedAdjS_any g z n cap j ps L W hn (hr.ext e) hk ho h1 h2 hnm
  have HM := Lib.hid hM
  have HA1 := Lib.hid (fun (ps : Option Addr) W (e : Ext w W) (h50 : 50 ≤ n) => hA ps q (by omega) (by omega) W e)
  have HA2 := Lib.hid (fun (ps : Option Addr) W (e : Ext w W) (h50 : 50 ≤ n) => hA ps q2 (by omega) (by omega) W e)
  have HA3 := Lib.hid (fun (ps : Option Addr) W (e : Ext w W) (h50 : 50 ≤ n) => hA ps q3 (by omega) (by omega) W e)
  have ht : (n : Int).tdiv 4 = (q : Int) := by rw [hq]; rfl
  have hw0 : wrap64 (q : Int) = (q : Int) := IntWalk.wrap64_in _ (by omega)
  have hw1 : IntKind.i64.wrap (q : Int) = (q : Int) := IntWalk.i64_in _ (by omega)
  have hv2 : wrap64 ((q : Int) * 2) = (q2 : Int) := by rw [IntWalk.wrap64_in _ (by omega)]; omega
  have hv3 : wrap64 ((q : Int) * 3) = (q3 : Int) := by rw [IntWalk.wrap64_in _ (by omega)]; omega
  have hw4 : wrap64 (q2 : Int) = (q2 : Int) := IntWalk.wrap64_in _ (by omega)
  have hw5 : wrap64 (q3 : Int) = (q3 : Int) := IntWalk.wrap64_in _ (by omega)
  have hw2 : IntKind.i64.wrap ((q : Int) * 2) = (q2 : Int) := by rw [IntWalk.i64_in _ (by omega)]; omega
  have hw3 : IntKind.i64.wrap ((q : Int) * 3) = (q3 : Int) := by rw [IntWalk.i64_in _ (by omega)]; omega
  have h8 : (8 : Int) ≤ (n : Int) := by omega
  have h8N : 8 ≤ n := by omega
  have Hx := Lib.hid (And.intro hq (And.intro hq2 hq3))
  clear hM hA hr hk ho hn hq hq2 hq3 h13
  have hx0 := Ext.alloc w (.cells #[.int .i64 0] 3)
  have hb0 := Blk.new w (.cells #[.int .i64 0] 3)
  go_enter Tryz.func104, Tryz.ntmps104
  go_upto_region 3 with (fail)
  refine wp_name (fun w0 => Ext w w0 ∧ Blk w0 w.heap.size (.cells #[.int .i64 0] 3)) ⟨hx0, hb0⟩ ?_
  clear hx0 hb0
  rintro w0 ⟨hx0, hb0⟩
  by_cases h50 : 50 ≤ n
  · have h50I : (50 : Int) ≤ (n : Int) := by omega
    go_upto_region 9 with (go_at_call 121; refine (HA1.out _ _ hx0 h50).mono ?_; rintro e w1 ⟨rfl, he1⟩)
    go_upto_region 10 with (go_at_call 121; refine (HA2.out _ _ (hx0.trans he1) h50).mono ?_; rintro e w2 ⟨rfl, he2⟩)
    go_upto_region 11 with (go_at_call 121; refine (HA3.out _ _ ((hx0.trans he1).trans he2) h50).mono ?_; rintro e w3 ⟨rfl, he3⟩)
    have hx3 := ((hx0.trans he1).trans he2).trans he3
    have hb3 := he3.blk _ _ (he2.blk _ _ (he1.blk _ _ hb0))
    clear hx0 hb0 he1 he2 he3
    go_upto_region 12 with (go_at_call 122; refine (HM.out _ _ hx3).mono ?_; rintro e w4 ⟨rfl, he4⟩)
    have hb4 := he4.blk _ _ hb3
    have k0 : w4.cell? ⟨w.heap.size, 0, none⟩ = some (.int .i64 0) := Blk.val hb4 0 _ rfl
    have lk := Blk.lt hb4
    have HX := Lib.hid (hx3.trans he4)
    clear hx3 hb3 he4 hb4
    go_wp2
    go_ret2
    exact ⟨_, rfl, HX.out⟩
  · have h50I : decide ((50 : Int) ≤ (n : Int)) = false := decide_eq_false (by omega)
    go_upto_region 12 with (go_at_call 122; refine (HM.out _ _ hx0).mono ?_; rintro e w4 ⟨rfl, he4⟩)
    have hb4 := he4.blk _ _ hb0
    have k0 : w4.cell? ⟨w.heap.size, 0, none⟩ = some (.int .i64 0) := Blk.val hb4 0 _ rfl
    have lk := Blk.lt hb4
    have HX := Lib.hid (hx0.trans he4)
    clear hx0 hb0 he4 hb4
    go_wp2
    go_ret2
    exact ⟨_, rfl, HX.out⟩
set_option maxRecDepth 100000 in
set_option maxHeartbeats 1000000 in
theorem PartialS_any (g z n cap : Nat) (L : List Wr) (w : World) (hn : L.length = n) (hr : RowW w g z L) (hk : ∀ x ∈ L, 0 ≤ x.1 ∧ x.1 ≤ 20000000) (ho : ordTo L L.length) (h13 : 13 ≤ n) (hnm : n ≤ 1000) :
    Calls Tryz.prog 106 #[.slice (some ⟨g, 0, none⟩) n cap, .int .i64 0, .int .i64 n, .func (.func 65) #[] #[]] w fun e w' => e = .returned (.bool true) ∧ Ext w w' := by
  have Hn := Lib.hid hn
  have Hr := Lib.hid hr
  have HK := Lib.hid hk
  have Ho := Lib.hid ho
  have hgl : g < w.heap.size := by obtain ⟨_, h, _⟩ := hr; exact Blk.lt h
  have Hgl := Lib.hid hgl
  have H13 := Lib.hid h13
  clear hr hk ho hn h13 hgl
  obtain ⟨wo, rfl⟩ : ∃ wo : World, wo = w := ⟨_, rfl⟩
  go_enter Tryz.func106, Tryz.ntmps106
  go_upto_region 3 with (fail)
  go_loopw [10, 9] (fun v10 v9 wr => v10 = .int .i64 0 ∧ v9 = .int .i64 1 ∧ wr = wo) (fun _ _ _ => 0)
  case atStart => exact ⟨rfl, rfl, rfl⟩
  case round =>
    obtain ⟨rfl, rfl, rfl⟩ := hrel
    go_upto_region 5 with (fail)
    go_loopw [9] (fun i wj => ∃ k : Nat, k + 1 ≤ n ∧ i = .int .i64 ((k + 1 : Nat) : Int) ∧ Ext wr wj) (fun i _ => n - (intOf i).toNat)
    case atStart => exact ⟨0, by have := H13.out; omega, rfl, Ext.refl _⟩
    case round =>
      obtain ⟨k, hk, rfl, hx⟩ := hrel
      by_cases hlt : k + 1 < n
      · obtain ⟨a0, a1, _⟩ := (Hr.out.ext hx).at (k + 1) (by have := Hn.out; omega)
        obtain ⟨b0, b1, hglw⟩ := (Hr.out.ext hx).at k (by have := Hn.out; omega)
        have hkA := wrAt_num HK.out (show k + 1 < L.length by have := Hn.out; omega)
        have hkB := wrAt_num HK.out (show k < L.length by have := Hn.out; omega)
        have hle := ord_le Ho.out (Nat.le_succ k) (by have := Hn.out; omega)
        rw [Nat.succ_eq_add_one] at hle
        generalize wrAt L (k + 1) = y at *
        generalize wrAt L k = x at *
        obtain ⟨ky, sy⟩ := y
        obtain ⟨kx, sx⟩ := x
        simp only at a0 a1 b0 b1 hkA hkB hle
        have hd : decide (ky - kx < 0) = false := decide_eq_false (by omega)
        have Hx := Lib.hid hx
        obtain ⟨i, hi⟩ : ∃ i, i = k + 1 := ⟨_, rfl⟩
        rw [← hi] at a0 a1 hlt ⊢
        have hji : (i : Int) - 1 = (k : Int) := by omega
        have hiI : (i : Int) < n := by omega
        have hjI : (k : Int) < n := by omega
        have Hi := Lib.hid hi
        clear hi hx hle
        go_upto_region 5 with (fail)
        refine wp_region_mk 200 (Ext.refl wr) (by kernel_rfl) (by kernel_rfl) (by kernel_rfl) ?_
        simp only [List.take_succ_cons, List.take_zero, List.take_nil, List.drop_succ_cons, List.drop_zero, List.drop_nil, List.map_cons, List.map_nil]
        repeat (first
          | (refine wpML_detg (o := ⟨some 33, _, _, _, _, _⟩) (x := .int .i64 (ky - kx)) rfl rfl rfl rfl ?_ ?_
             · intro a w' he hr K hK
               simp [Reads, Oper.looksAt, Op.operands, Call.operands, factAt, Is] at hr
               go_simp
               refine (CmpI_any ky kx sy sx _ hkA hkB).mono ?_
               rintro e w'' ⟨rfl, he''⟩
               exact hK _ he''
             simp only [setL, List.set_cons_succ, List.set_cons_zero])
          | (refine wpML_skip rfl rfl rfl rfl ?_
             simp only [setL, List.set_cons_succ, List.set_cons_zero])
          | (apply wpML_detg rfl rfl rfl rfl
             · intro a w' he hr K hK
               simp [Reads, Oper.looksAt, Op.operands, Call.operands, factAt, Is] at hr
               have hx := he.cell
               go_simp
               try go_bits
               try (rw [if_neg (by omega)]; go_simp)
               first
                 | exact hK _ (Ext.refl _)
             simp only [setL, List.set_cons_succ, List.set_cons_zero])
          | (refine wpML_move _ _ rfl (by first | exact .inl rfl | exact .inr rfl) rfl (by first | exact Is.stable _ | exact AppF.stable _ | exact WrF.stable _ | exact PtrF.stable _ _ | exact IfcF.stable (Fresh.stable _ _ _) _ | exact PairF.stable (RowF.stable _ _ _ _) _ | exact RowF.stable _ _ _ _ | exact Fresh.stable _ _ _) ?_
             simp only [setL, List.set_cons_succ, List.set_cons_zero, List.getD_cons_succ, List.getD_cons_zero])
          | (refine wpML_moveC _ rfl (by first | exact .inl rfl | exact .inr rfl) ?_
             simp only [setL, List.set_cons_succ, List.set_cons_zero])
          | (apply wpML_det rfl
             · intro a w' he hr K hK
               simp [Reads, Oper.looksAt, Op.operands, Call.operands, factAt, Is] at hr
               have hx := he.cell
               go_simp
               try go_bits
               try (rw [if_neg (by omega)]; go_simp)
               first
                 | exact hK _ (Ext.refl _)
             simp only [setL, List.set_cons_succ, List.set_cons_zero])
          | (apply wpML_det rfl
             · intro a w' he hr K hK
               simp [Reads, Oper.looksAt, Op.operands, Call.operands, factAt, Fresh] at hr
               obtain ⟨b, hr1, hr2⟩ := hr
               go_simp
               exact hK _ (Ext.refl _)
             simp only [setL, List.set_cons_succ, List.set_cons_zero]))
        intro w2 he2
        repeat (first | with_reducible refine rest_is _ _ _ _ ?_ | (with_reducible refine rest_fact _ _ _ _ ?_; intro _ _) | with_reducible refine rest_end _ _ ?_)
        simp only [List.reverse_cons, List.reverse_nil, List.nil_append, List.cons_append]
        have HX := Lib.hid (Hx.out.trans he2)
        clear he2
        go_wp2
        go_roundw
        case rel => exact ⟨k + 1, by have := Hi.out; omega, by have := Hi.out; subst this; go_num, HX.out⟩
        case measure => simp [intOf]; have := Hi.out; omega
      · have hke : k + 1 = n := by omega
        have hltI : decide (((k + 1 : Nat) : Int) < n) = false := decide_eq_false (by omega)
        have Hx := Lib.hid hx
        clear hx hk hlt
        obtain ⟨n1, hn1⟩ : ∃ n1, n1 = k + 1 := ⟨_, rfl⟩
        rw [← hn1] at hltI ⊢
        rw [← hn1] at hke
        clear hn1
        subst hke
        go_upto_region 5 with (fail)
        refine wp_region_mk 200 (Ext.refl wr) (by kernel_rfl) (by kernel_rfl) (by kernel_rfl) ?_
        simp only [List.take_succ_cons, List.take_zero, List.take_nil, List.drop_succ_cons, List.drop_zero, List.drop_nil, List.map_cons, List.map_nil]
        repeat (first
          | (refine wpML_skip rfl rfl rfl rfl ?_
             simp only [setL, List.set_cons_succ, List.set_cons_zero])
          | (apply wpML_detg rfl rfl rfl rfl
             · intro a w' he hr K hK
               simp [Reads, Oper.looksAt, Op.operands, Call.operands, factAt, Is] at hr
               have hx := he.cell
               go_simp
               try go_bits
               try (rw [if_neg (by omega)]; go_simp)
               first
                 | exact hK _ (Ext.refl _)
             simp only [setL, List.set_cons_succ, List.set_cons_zero])
          | (refine wpML_move _ _ rfl (by first | exact .inl rfl | exact .inr rfl) rfl (by first | exact Is.stable _ | exact AppF.stable _ | exact WrF.stable _ | exact PtrF.stable _ _ | exact IfcF.stable (Fresh.stable _ _ _) _ | exact PairF.stable (RowF.stable _ _ _ _) _ | exact RowF.stable _ _ _ _ | exact Fresh.stable _ _ _) ?_
             simp only [setL, List.set_cons_succ, List.set_cons_zero, List.getD_cons_succ, List.getD_cons_zero])
          | (refine wpML_moveC _ rfl (by first | exact .inl rfl | exact .inr rfl) ?_
             simp only [setL, List.set_cons_succ, List.set_cons_zero])
          | (apply wpML_det rfl
             · intro a w' he hr K hK
               simp [Reads, Oper.looksAt, Op.operands, Call.operands, factAt, Is] at hr
               have hx := he.cell
               go_simp
               try go_bits
               try (rw [if_neg (by omega)]; go_simp)
               first
                 | exact hK _ (Ext.refl _)
             simp only [setL, List.set_cons_succ, List.set_cons_zero])
          | (apply wpML_det rfl
             · intro a w' he hr K hK
               simp [Reads, Oper.looksAt, Op.operands, Call.operands, factAt, Fresh] at hr
               obtain ⟨b, hr1, hr2⟩ := hr
               go_simp
               exact hK _ (Ext.refl _)
             simp only [setL, List.set_cons_succ, List.set_cons_zero]))
        intro w2 he2
        repeat (first | with_reducible refine rest_is _ _ _ _ ?_ | (with_reducible refine rest_fact _ _ _ _ ?_; intro _ _) | with_reducible refine rest_end _ _ ?_)
        simp only [List.reverse_cons, List.reverse_nil, List.nil_append, List.cons_append]
        have HX := Lib.hid (Hx.out.trans he2)
        clear he2
        go_wp2
        go_ret
        exact ⟨rfl, HX.out⟩
set_option maxRecDepth 100000 in
set_option maxHeartbeats 1000000 in
theorem PdqS_any (g z n cap : Nat) (lim : Int) (L : List Wr) (w : World) (hn : L.length = n) (hr : RowW w g z L) (hk : ∀ x ∈ L, 0 ≤ x.1 ∧ x.1 ≤ 20000000) (ho : ordTo L L.length) (h13 : 13 ≤ n) (hnm : n ≤ 1000) (hl : lim ≠ 0) :
    Calls Tryz.prog 86 #[.slice (some ⟨g, 0, none⟩) n cap, .int .i64 0, .int .i64 n, .int .i64 lim, .func (.func 65) #[] #[]] w fun e w' => e = .returned (.tuple #[]) ∧ Ext w w' := by
  have HC := Lib.hid (fun W (e : Ext w W) => ChooseS_any g z n cap L W hn (hr.ext e) hk ho h13 hnm)
  have HP := Lib.hid (fun W (e : Ext w W) => PartialS_any g z n cap L W hn (hr.ext e) hk ho h13 hnm)
  have h12 : decide ((n : Int) ≤ 12) = false := decide_eq_false (by omega)
  have h12N : ¬ n ≤ 12 := by omega
  have hl0 : (lim == 0) = false := by simpa using hl
  clear hn hr hk ho h13 hl
  go_enter Tryz.func86, Tryz.ntmps86
  go_upto_region 2 with (fail)
  obtain ⟨wo, rfl⟩ : ∃ wo : World, wo = w := ⟨_, rfl⟩
  go_loopw [1, 2, 3, 10, 11] (fun x y z u v wr => x = .int .i64 0 ∧ y = .int .i64 n ∧ z = .int .i64 lim ∧ u = .bool true ∧ v = .bool true ∧ wr = wo) (fun _ _ _ _ _ _ => 0)
  case atStart => exact ⟨rfl, rfl, rfl, rfl, rfl, rfl⟩
  case round =>
    obtain ⟨rfl, rfl, rfl, rfl, rfl, rfl⟩ := hrel
    go_wp2_with (first
      | (go_at_call 104; refine (HC.out _ (Ext.refl _)).mono ?_; rintro e w1 ⟨pv, rfl, he1⟩)
      | (go_at_call 106; refine (HP.out _ he1).mono ?_; rintro e w2 ⟨rfl, he2⟩))
    first | go_end0 | ((try simp only [Exit.inBlock, Exit.then]); refine bodyPost_ret (results_none rfl _ _ _) rfl ?_)
    exact ⟨rfl, he1.trans he2⟩
set_option maxRecDepth 100000 in
set_option maxHeartbeats 4000000 in
theorem Len64S_any (n : Nat) (h : 13 ≤ n) (h1 : n ≤ 100) (w : World) : Calls Tryz.prog 110 #[.int .u64 n] w fun e w' => (∃ k : Int, e = .returned (.int .i64 k) ∧ k ≠ 0) ∧ w' = w := by
  have h1I : decide ((4294967296 : Int) ≤ (n : Int)) = false := decide_eq_false (by omega)
  have h2I : decide ((65536 : Int) ≤ (n : Int)) = false := decide_eq_false (by omega)
  have h3I : decide ((256 : Int) ≤ (n : Int)) = false := decide_eq_false (by omega)
  have h4I : (n : Int) < 256 := by omega
  have h5 : n < 256 := by omega
  go_enter Tryz.func110, Tryz.ntmps110
  go_wp2
  go_ret
  refine ⟨⟨_, rfl, ?_⟩, rfl⟩
  clear h1I h2I h3I h4I h5
  have h2 : n < 101 := by omega
  clear h1
  revert h
  revert h2
  revert n
  decide +kernel
set_option maxRecDepth 100000 in
theorem LenS_any (n : Nat) (h : 13 ≤ n) (h1 : n ≤ 100) (w : World) : Calls Tryz.prog 87 #[.int .u64 n] w fun e w' => ∃ k : Int, e = .returned (.int .i64 k) ∧ k ≠ 0 ∧ w' = w := by
  have H := Lib.hid (fun W => Len64S_any n h h1 W)
  clear h h1
  go_enter Tryz.func87, Tryz.ntmps87
  go_wp2_with (go_at_call 110; refine (H.out _).mono ?_; rintro e w1 ⟨⟨k, rfl, hk⟩, rfl⟩)
  go_ret
  exact ⟨_, rfl, hk, rfl⟩
set_option maxRecDepth 100000 in
set_option maxHeartbeats 2000000 in
theorem InsertionS_any (g z n cap : Nat) (L : List Wr) (w : World) (hn : L.length = n) (hr : RowW w g z L) (hk : ∀ x ∈ L, 0 ≤ x.1 ∧ x.1 ≤ 20000000) (ho : ordTo L L.length) (hnm : n ≤ 1000) :
    Calls Tryz.prog 101 #[.slice (some ⟨g, 0, none⟩) n cap, .int .i64 0, .int .i64 n, .func (.func 65) #[] #[]] w fun e w' => e = .returned (.tuple #[]) ∧ Ext w w' := by
  have Hn := Lib.hid hn
  have Hr := Lib.hid hr
  have HK := Lib.hid hk
  have Ho := Lib.hid ho
  clear hn hr hk ho
  obtain ⟨wo, rfl⟩ : ∃ wo : World, wo = w := ⟨_, rfl⟩
  go_enter Tryz.func101, Tryz.ntmps101
  go_upto_region 1 with (fail)
  go_loopw [8] (fun i wr => ∃ k : Nat, (k + 1 ≤ n ∨ k = 0) ∧ i = .int .i64 ((k + 1 : Nat) : Int) ∧ Ext wo wr) (fun i _ => n - (intOf i).toNat)
  case atStart => exact ⟨0, .inr rfl, rfl, Ext.refl _⟩
  case round =>
    obtain ⟨k, hkn, rfl, hx⟩ := hrel
    obtain ⟨i, hi⟩ : ∃ i, i = k + 1 := ⟨_, rfl⟩
    rw [← hi]
    by_cases hlt : i < n
    · have hltI : (i : Int) < n := by omega
      have Hi := Lib.hid hi
      clear hkn hi
      go_upto_region 4 with (fail)
      go_loopw [9] (fun jv wj => jv = .int .i64 i ∧ Ext wo wj) (fun _ _ => 0)
      case atStart => exact ⟨rfl, hx⟩
      case round =>
        obtain ⟨rfl, hx⟩ := hrel
        obtain ⟨a0, a1, _⟩ := (Hr.out.ext hx).at i (by have := Hn.out; omega)
        obtain ⟨b0, b1, hglw⟩ := (Hr.out.ext hx).at k (by have := Hn.out; have := Hi.out; omega)
        have hkA := wrAt_num HK.out (show i < L.length by have := Hn.out; omega)
        have hkB := wrAt_num HK.out (show k < L.length by have := Hn.out; have := Hi.out; omega)
        have hle := ord_le Ho.out (show k ≤ i by have := Hi.out; omega) (by have := Hn.out; omega)
        generalize wrAt L i = y at *
        generalize wrAt L k = x at *
        obtain ⟨ky, sy⟩ := y
        obtain ⟨kx, sx⟩ := x
        simp only at a0 a1 b0 b1 hkA hkB hle
        have hd : decide (ky - kx < 0) = false := decide_eq_false (by omega)
        have Hx := Lib.hid hx
        have hji : (i : Int) - 1 = (k : Int) := by have := Hi.out; omega
        have hiI : (i : Int) < n := by omega
        have hjI : (k : Int) < n := by have := Hi.out; omega
        have hi0 : decide (0 < (i : Int)) = true := decide_eq_true (by have := Hi.out; omega)
        have hi1 : 0 < i := by have := Hi.out; omega
        clear hx hle
        go_upto_region 4 with (fail)
        refine wp_region_mk 200 (Ext.refl wr) (by kernel_rfl) (by kernel_rfl) (by kernel_rfl) ?_
        simp only [List.take_succ_cons, List.take_zero, List.take_nil, List.drop_succ_cons, List.drop_zero, List.drop_nil, List.map_cons, List.map_nil]
        repeat (first
          | (refine wpML_detg (o := ⟨some 32, _, _, _, _, _⟩) (x := .int .i64 (ky - kx)) rfl rfl rfl rfl ?_ ?_
             · intro a w' he hr K hK
               simp [Reads, Oper.looksAt, Op.operands, Call.operands, factAt, Is] at hr
               go_simp
               refine (CmpI_any ky kx sy sx _ hkA hkB).mono ?_
               rintro e w'' ⟨rfl, he''⟩
               exact hK _ he''
             simp only [setL, List.set_cons_succ, List.set_cons_zero])
          | (refine wpML_skip rfl rfl rfl rfl ?_
             simp only [setL, List.set_cons_succ, List.set_cons_zero])
          | (apply wpML_detg rfl rfl rfl rfl
             · intro a w' he hr K hK
               simp [Reads, Oper.looksAt, Op.operands, Call.operands, factAt, Is] at hr
               have hx := he.cell
               go_simp
               try go_bits
               try (rw [if_neg (by omega)]; go_simp)
               first
                 | exact hK _ (Ext.refl _)
             simp only [setL, List.set_cons_succ, List.set_cons_zero])
          | (refine wpML_move _ _ rfl (by first | exact .inl rfl | exact .inr rfl) rfl (by first | exact Is.stable _ | exact AppF.stable _ | exact WrF.stable _ | exact PtrF.stable _ _ | exact IfcF.stable (Fresh.stable _ _ _) _ | exact PairF.stable (RowF.stable _ _ _ _) _ | exact RowF.stable _ _ _ _ | exact Fresh.stable _ _ _) ?_
             simp only [setL, List.set_cons_succ, List.set_cons_zero, List.getD_cons_succ, List.getD_cons_zero])
          | (refine wpML_moveC _ rfl (by first | exact .inl rfl | exact .inr rfl) ?_
             simp only [setL, List.set_cons_succ, List.set_cons_zero])
          | (apply wpML_det rfl
             · intro a w' he hr K hK
               simp [Reads, Oper.looksAt, Op.operands, Call.operands, factAt, Is] at hr
               have hx := he.cell
               go_simp
               try go_bits
               try (rw [if_neg (by omega)]; go_simp)
               first
                 | exact hK _ (Ext.refl _)
             simp only [setL, List.set_cons_succ, List.set_cons_zero])
          | (apply wpML_det rfl
             · intro a w' he hr K hK
               simp [Reads, Oper.looksAt, Op.operands, Call.operands, factAt, Fresh] at hr
               obtain ⟨b, hr1, hr2⟩ := hr
               go_simp
               exact hK _ (Ext.refl _)
             simp only [setL, List.set_cons_succ, List.set_cons_zero]))
        intro w2 he2
        repeat (first | with_reducible refine rest_is _ _ _ _ ?_ | (with_reducible refine rest_fact _ _ _ _ ?_; intro _ _) | with_reducible refine rest_end _ _ ?_)
        simp only [List.reverse_cons, List.reverse_nil, List.nil_append, List.cons_append]
        have HX := Lib.hid (Hx.out.trans he2)
        clear he2
        go_wp2
        go_roundw
        case rel => exact ⟨i, by have := Hi.out; omega, by go_num, HX.out⟩
        case measure => simp [intOf]; omega
    · have hltI : decide ((i : Int) < n) = false := decide_eq_false (by omega)
      go_wp2
      go_end0
      exact ⟨rfl, hx⟩
set_option maxRecDepth 100000 in
theorem InsertionZ_any (q : Option Addr) (cap : Nat) (w : World) :
    Calls Tryz.prog 101 #[.slice q 0 cap, .int .i64 0, .int .i64 0, .func (.func 65) #[] #[]] w fun e w' => e = .returned (.tuple #[]) ∧ w' = w := by
  obtain ⟨wo, rfl⟩ : ∃ wo : World, wo = w := ⟨_, rfl⟩
  go_enter Tryz.func101, Tryz.ntmps101
  go_upto_region 1 with (fail)
  go_loopw [8] (fun i wr => i = .int .i64 1 ∧ wr = wo) (fun _ _ => 0)
  case atStart => exact ⟨rfl, rfl⟩
  case round =>
    obtain ⟨rfl, rfl⟩ := hrel
    go_wp2
    go_end0
    exact ⟨rfl, rfl⟩
set_option maxRecDepth 100000 in
theorem PdqI2_any (q : Option Addr) (n cap : Nat) (lim : Int) (w : World) (h12 : n ≤ 12) (hI : Calls Tryz.prog 101 #[.slice q n cap, .int .i64 0, .int .i64 n, .func (.func 65) #[] #[]] w fun e w' => e = .returned (.tuple #[]) ∧ Ext w w') :
    Calls Tryz.prog 86 #[.slice q n cap, .int .i64 0, .int .i64 n, .int .i64 lim, .func (.func 65) #[] #[]] w fun e w' => e = .returned (.tuple #[]) ∧ Ext w w' := by
  have HI := Lib.hid hI
  clear hI
  go_enter Tryz.func86, Tryz.ntmps86
  go_upto_region 2 with (fail)
  obtain ⟨wo, rfl⟩ : ∃ wo : World, wo = w := ⟨_, rfl⟩
  have hI1 : (n : Int) ≤ 12 := by omega
  go_loopw [1, 2] (fun x y wr => x = .int .i64 0 ∧ y = .int .i64 n ∧ wr = wo) (fun _ _ _ => 0)
  case atStart => exact ⟨rfl, rfl, rfl⟩
  case round =>
    obtain ⟨rfl, rfl, rfl⟩ := hrel
    go_wp2_with (go_at_call 101; refine HI.out.mono ?_; rintro e w1 ⟨rfl, h1⟩)
    first | go_end0 | ((try simp only [Exit.inBlock, Exit.then]); refine bodyPost_ret (results_none rfl _ _ _) rfl ?_)
    exact ⟨rfl, h1⟩
set_option maxRecDepth 100000 in
theorem SortFuncS_any (q : Option Addr) (n cap : Nat) (L : List Wr) (w : World) (hn : L.length = n) (h100 : n ≤ 100) (hr : n = 0 ∨ ∃ g z, q = some ⟨g, 0, none⟩ ∧ RowW w g z L) (hk : ∀ x ∈ L, 0 ≤ x.1 ∧ x.1 ≤ 20000000) (ho : ordTo L L.length) :
    Calls Tryz.prog 64 #[.slice q n cap, .func (.func 65) #[] #[]] w fun e w' => e = .returned (.tuple #[]) ∧ Ext w w' := by
  by_cases h13 : 13 ≤ n
  · have HP : Hid (∀ lim : Int, lim ≠ 0 → Calls Tryz.prog 86 #[.slice q n cap, .int .i64 0, .int .i64 n, .int .i64 lim, .func (.func 65) #[] #[]] w fun e w' => e = .returned (.tuple #[]) ∧ Ext w w') := Lib.hid (fun lim hl => by
      rcases hr with h0 | ⟨g, z, rfl, hr⟩
      · omega
      · exact PdqS_any g z n cap lim L w hn hr hk ho h13 (by omega) hl)
    clear hn hr hk ho
    have HL := Lib.hid (fun W => LenS_any n h13 h100 W)
    clear h13
    go_enter Tryz.func64, Tryz.ntmps64
    go_wp2_with (first
      | (go_at_call 87; refine (HL.out _).mono ?_; rintro e w1 ⟨lm, rfl, hl0, rfl⟩)
      | (go_at_call 86; refine (HP.out _ hl0).mono ?_; rintro e w1 ⟨rfl, h1⟩))
    go_end0
    exact ⟨rfl, h1⟩
  · have h12 : n ≤ 12 := by omega
    have HP : Hid (∀ lim : Int, Calls Tryz.prog 86 #[.slice q n cap, .int .i64 0, .int .i64 n, .int .i64 lim, .func (.func 65) #[] #[]] w fun e w' => e = .returned (.tuple #[]) ∧ Ext w w') := Lib.hid (fun lim => PdqI2_any q n cap lim w h12 (by
      rcases hr with h0 | ⟨g, z, rfl, hr⟩
      · subst h0
        exact (InsertionZ_any q cap w).mono (by rintro e w' ⟨rfl, rfl⟩; exact ⟨rfl, Ext.refl _⟩)
      · exact InsertionS_any g z n cap L w hn hr hk ho (by omega)))
    clear hn hr hk ho h13
    go_enter Tryz.func64, Tryz.ntmps64
    go_wp2_with (first
      | (go_at_call 87; refine (Len_any n h12 _).mono ?_; rintro e w1 ⟨lm, rfl, rfl⟩)
      | (go_at_call 86; refine (HP.out _).mono ?_; rintro e w1 ⟨rfl, h1⟩))
    go_end0
    exact ⟨rfl, h1⟩
end Go.Proofs.YtolmoknjmdmpgaaGreat
/- What index.Build's loops leave, in plain words. -/
namespace Dsd
open Go.Proofs.YtolmoknjmdmpgaaGreat (encNE encNS wrN)
theorem numN_at2 : ∀ (f : Int) (L : List Nd) (k : Nat) (h : k < L.length), (numN f L)[k]? = some (f + 1 + k, { L[k] with next := if k + 1 < L.length then f + 1 + k + 1 else L[k].next })
  | _, [], k, h => by simp at h
  | f, [n], k, h => by
    obtain rfl : k = 0 := by simp at h; omega
    simp [numN]
  | f, n :: m :: L, 0, h => by simp [numN]
  | f, n :: m :: L, k + 1, h => by
    have ih := numN_at2 (f + 1) (m :: L) k (by simpa using h)
    have e : (numN f (n :: m :: L))[k + 1]? = (numN (f + 1) (m :: L))[k]? := by simp [numN]
    rw [e, ih]
    have e2 : (n :: m :: L)[k + 1] = (m :: L)[k]'(by simpa using h) := by simp
    rw [e2]
    by_cases h9 : k + 1 < (m :: L).length
    · rw [if_pos h9, if_pos (by simpa using h9)]
      simp only [Option.some.injEq, Prod.mk.injEq, Nd.mk.injEq, true_and]
      refine ⟨by omega, by omega, trivial⟩
    · rw [if_neg h9, if_neg (by simpa using h9)]
      simp only [Option.some.injEq, Prod.mk.injEq, and_true]
      omega
theorem wrN_take {d : DS} {N : List (Int × Nd)} {k : Nat} {y : Int × Nd} (h : N[k]? = some y) : wrN d (N.take (k + 1)) = wrN d (N.take k) ++ [(y.1, encNS d.interval y.2)] := by
  rw [List.take_add_one, h]
  unfold Go.Proofs.YtolmoknjmdmpgaaGreat.wrN
  simp
theorem bld_nil (size : Int) (f : Nat) (lv fin p : Int) : bldGo size f lv fin p [] = (p, lv, fin, []) := by
  cases f with
  | zero => rfl
  | succ f => unfold bldGo; rw [if_pos rfl]
theorem bld_step {size : Int} {f : Nat} {lv fin p : Int} {R : List (List UInt8 × Int)} {LV : List Nd × List (List UInt8)} (hR : R ≠ []) (h : LV = levGo size (lv + 1) (R.length + 1) p R) :
    bldGo size (f + 1) lv fin p R = ((bldGo size f (lv + 1) (fin + (LV.1.length : Int)) (fin + 1) (numB (fin + 1) LV.2)).1, (bldGo size f (lv + 1) (fin + (LV.1.length : Int)) (fin + 1) (numB (fin + 1) LV.2)).2.1, (bldGo size f (lv + 1) (fin + (LV.1.length : Int)) (fin + 1) (numB (fin + 1) LV.2)).2.2.1, numN fin LV.1 ++ (bldGo size f (lv + 1) (fin + (LV.1.length : Int)) (fin + 1) (numB (fin + 1) LV.2)).2.2.2) := by
  rw [h]
  conv => lhs; unfold bldGo
  rw [if_neg hR]
theorem wrN_len (d : DS) (N : List (Int × Nd)) : (wrN d N).length = N.length := by unfold Go.Proofs.YtolmoknjmdmpgaaGreat.wrN; rw [List.length_map]
theorem wrN_at {d : DS} {N : List (Int × Nd)} {c : Int} (h : N.map (·.1) = (List.range N.length).map (fun k : Nat => c + (k : Int))) {i : Nat} (hi : i < N.length) : (wrAt (wrN d N) i).1 = c + (i : Int) := by
  have h1 : (N.map (·.1))[i]? = some N[i].1 := by rw [List.getElem?_map, List.getElem?_eq_getElem hi]; rfl
  rw [h, List.getElem?_map, List.getElem?_range hi] at h1
  have h2 : c + (i : Int) = N[i].1 := Option.some.inj h1
  rw [wrAt_get (by rw [wrN_len]; exact hi), h2]
  unfold Go.Proofs.YtolmoknjmdmpgaaGreat.wrN
  rw [List.getElem_map]
theorem wrN_ord {d : DS} {N : List (Int × Nd)} {c : Int} (h : N.map (·.1) = (List.range N.length).map (fun k : Nat => c + (k : Int))) : ordTo (wrN d N) (wrN d N).length := by
  intro p q hpq hq
  rw [wrN_len] at hq
  rw [wrN_at h (show p < N.length by omega), wrN_at h hq]
  omega
theorem wrN_num {d : DS} {N : List (Int × Nd)} {c : Int} (h : N.map (·.1) = (List.range N.length).map (fun k : Nat => c + (k : Int))) (h0 : 0 ≤ c) (h1 : c + N.length ≤ 20000000) : ∀ x ∈ wrN d N, 0 ≤ x.1 ∧ x.1 ≤ 20000000 := by
  intro x hx
  unfold Go.Proofs.YtolmoknjmdmpgaaGreat.wrN at hx
  obtain ⟨y, hy, rfl⟩ := List.mem_map.1 hx
  have hm : y.1 ∈ N.map (·.1) := List.mem_map_of_mem hy
  rw [h] at hm
  obtain ⟨k, hk, e⟩ := List.mem_map.1 hm
  have := List.mem_range.1 hk
  simp only
  omega
end Dsd
/- The walk of package index's Build, where it does not fail. -/
namespace Go.Proofs.YtolmoknjmdmpgaaGreat
open Go.RowKit Dsd
theorem WrS.rty {B wb : Nat} {t : TypeId} {h : Hd} {d : DS} {L : List Wr} {w w' : World} (k : WrS B wb h d L w) (h1 : 93 ≠ t) (h2 : 65 ≠ t) (r : RTy B t w w') : WrS B wb h d L w' := by
  obtain ⟨q, c, a1, a2, a3⟩ := k
  exact ⟨q, c, r.2 _ _ _ h1 a1, own_rty a2 h2 r, a3⟩
set_option maxRecDepth 100000 in
theorem sortedS_any (B wb : Nat) (h : Hd) (d : DS) (L : List Wr) (w : World) (hs : WrS B wb h d L w) (hl : L.length ≤ 100) (hk : ∀ x ∈ L, 0 ≤ x.1 ∧ x.1 ≤ 20000000) (ho : ordTo L L.length) :
    Calls Tryz.prog 44 #[.pointer (some ⟨wb, 0, none⟩)] w fun e w' => ∃ q c, e = .returned (.slice q L.length c) ∧ w'.ownsRow B 65 2 (.slice q L.length c) L.length (wrC L) ∧ Ext w w' := by
  obtain ⟨q, c, hb, hw, hB⟩ := hs
  have HS := Lib.hid (SortFuncS_any q L.length c L w rfl hl (by
    by_cases h0 : L.length = 0
    · exact .inl h0
    · obtain ⟨g, cur, rfl, _, hg, _, _, _, htk⟩ := own_parts hw (by omega)
      exact .inr ⟨g, cur.size, rfl, cur, hg, rfl, htk⟩) hk ho)
  have HW := Lib.hid (And.intro hb hw)
  have c28 : w.cell? ⟨wb, 28, none⟩ = some (.slice q L.length c) := Blk.val hb 28 _ rfl
  have lb := Blk.lt hb
  clear hb hw hl hk ho
  generalize L.length = n at *
  go_enter Tryz.func44, Tryz.ntmps44
  go_upto_region 2 with (go_at_call 64; refine HS.out.mono ?_; rintro e w1 ⟨rfl, he1⟩)
  have hb1 := he1.blk _ _ HW.out.1
  have c28' : w1.cell? ⟨wb, 28, none⟩ = some (.slice q n c) := Blk.val hb1 28 _ rfl
  have lb1 := Blk.lt hb1
  have HE := Lib.hid he1
  clear c28 lb hb1 he1
  go_wp2
  go_ret
  exact ⟨q, c, rfl, own_ext HW.out.2 HE.out, HE.out⟩
theorem TIr.chg {B g : Nat} {w w1 w2 : World} {t : TypeId} {cs : Array Value} (h : TIr B w w1) (hg : w.heap.size ≤ g) (hB : B ≤ g) (hb : Blk w1 g (.cells cs t)) (c : Chg g w1 w2) : TIr B w w2 :=
  ⟨h.1.trans (rty_chg hb hB c).1, fun b cs t h1 h2 h3 h4 => c.blk (h.2 b cs t h1 h2 h3 h4) (by rintro rfl; have := Blk.lt h4; omega)⟩
theorem own_at1 {w : World} {B n c k : Nat} {t : TypeId} {q : Option Addr} {xs : List Value} {u : Value} (h : w.ownsRow B t 1 (.slice q n c) n xs) (hk : k < n) (hu : xs[k]? = some u) : ∃ g, q = some ⟨g, 0, none⟩ ∧ w.cell? ⟨g, k, none⟩ = some u ∧ g < w.heap.size := by
  obtain ⟨g, cur, rfl, _, hb, _, _, _, ht⟩ := own_parts h (by omega)
  refine ⟨g, rfl, Blk.val hb k _ ?_, Blk.lt hb⟩
  rw [← ht, List.getElem?_take_of_lt (by omega), Array.getElem?_toList] at hu
  exact hu
/-- What Build hands back: T = the root, the height, the last page, the nodes. -/
def BldOut (h : Hd) (d : DS) (T : Int × Int × Int × List (Int × Nd)) (w : World) (e : Ending) (w' : World) : Prop := Ext w w' ∧ ∃ (q : Option Addr) (c : Nat) (g : Hd), g = ⟨h.applied, h.count, T.2.2.1, T.1, T.2.1, h.splits, h.areas⟩ ∧
  e = .returned (.tuple #[.agg #[.int .i64 g.applied, .int .i64 g.count, .int .i64 g.fin, .int .i64 g.root, .int .i64 g.height, .int .i64 g.splits, .int .i64 g.areas], .slice q (wrN d T.2.2.2).length c, .int .i64 0]) ∧ w'.ownsRow w.heap.size 65 2 (.slice q (wrN d T.2.2.2).length c) (wrN d T.2.2.2).length (wrC (wrN d T.2.2.2))
set_option maxRecDepth 100000 in
set_option maxHeartbeats 4000000 in
theorem Build_any (h : Hd) (d : DS) (qp : Option Addr) (cp nP : Nat) (PA : List Int) (qb : Option Addr) (cb nB : Nat) (BO : List (List UInt8)) (w : World) (hp : Ints w qp PA) (hpl : PA.length = nP) (hb : Strs w qb BO) (hbl : BO.length = nB) (hnP : nP = nB + 1) (hnB : nB ≤ 100) (hk : keyedB d = true) (hf : 0 ≤ h.fin ∧ h.fin ≤ 1000)
    (hbase : ∀ x ∈ PA, 1 ≤ x ∧ x ≤ 16777208) (hne : ∀ s ∈ BO, s ≠ [] ∧ s.length ≤ 32) (hord : ∀ i, 0 < i → i < BO.length → bl (BO.getD (i - 1) []) (BO.getD i []) = true) :
    Calls Tryz.prog 21 #[.agg #[.int .i64 d.id, .int .i64 d.org, .int .i64 d.format, .int .i64 d.length, .int .i64 d.block, .int .i64 d.keyAt, .int .i64 d.keyLength, .int .i64 d.interval, .int .i64 d.area, .int .i64 d.freeInterval, .int .i64 d.freeArea, .int .i64 d.base, .int .i64 d.altAt, .int .i64 d.altLength, .bool d.unique, .int .i64 d.cls, .string ⟨d.volume.toArray⟩, .string ⟨d.owner.toArray⟩, .int .i64 d.created, .int .i64 d.expires, .bool d.archived], .agg #[.int .i64 h.applied, .int .i64 h.count, .int .i64 h.fin, .int .i64 h.root, .int .i64 h.height, .int .i64 h.splits, .int .i64 h.areas], .slice qp nP cp, .slice qb nB cb] w (BldOut h d (bldGo d.interval 6 0 h.fin (PA.getD 0 0) (pairsB PA BO)) w) := by
  obtain ⟨T, hT⟩ : ∃ T, T = bldGo d.interval 6 0 h.fin (PA.getD 0 0) (pairsB PA BO) := ⟨_, rfl⟩
  rw [← hT]
  have HT := Lib.hid hT
  have HSt : Hid (Srt (([], PA.getD 0 0) :: pairsB PA BO) ∧ (∀ r ∈ pairsB PA BO, pageB r.2 = true ∧ r.1 ≠ [] ∧ r.1.length ≤ 32) ∧ pageB (PA.getD 0 0) = true) := Lib.hid (by
    refine ⟨pairs_srt (by omega) (fun s hs => (hne s hs).1) hord, pairs_ok hbase hne, ?_⟩
    have e : PA.getD 0 0 = PA[0]'(by omega) := by simp [List.getD, show 0 < PA.length by omega]
    have := hbase _ (List.getElem_mem (show 0 < PA.length by omega))
    rw [e]
    unfold pageB
    simp; omega)
  have HPu9 : Hid (T.2.2.2.map (·.1) = (List.range T.2.2.2.length).map (fun k : Nat => h.fin + 1 + (k : Int)) ∧ T.2.2.2.length ≤ 100) := Lib.hid (by
    have hpl : (pairsB PA BO).length ≤ 100 := by
      unfold pairsB
      rw [List.length_zip]
      have := Nat.min_le_left BO.length (PA.drop 1).length
      omega
    obtain ⟨r1, _, _, r4, _⟩ := bld_pure (d := d) (keyed_nums hk).1 6 0 h.fin (PA.getD 0 0) [] (pairsB PA BO) (by omega) (by omega) (by omega) HSt.out.2.2 HSt.out.2.1 HSt.out.1 hf.1 (by omega)
    rw [← hT] at r1 r4
    exact ⟨r1, by omega⟩)
  have HBd := Lib.hid (fun W (e : Ext w W) => buildable_any h d qp cp nP PA qb cb nB BO W (hp.ext e) hpl (hb.ext e) hbl hnP (by omega) hk (by omega) hbase hne hord)
  have x0 := Ext.alloc w (.cells #[.int .i64 d.id, .int .i64 d.org, .int .i64 d.format, .int .i64 d.length, .int .i64 d.block, .int .i64 d.keyAt, .int .i64 d.keyLength, .int .i64 d.interval, .int .i64 d.area, .int .i64 d.freeInterval, .int .i64 d.freeArea, .int .i64 d.base, .int .i64 d.altAt, .int .i64 d.altLength, .bool d.unique, .int .i64 d.cls, .string ⟨d.volume.toArray⟩, .string ⟨d.owner.toArray⟩, .int .i64 d.created, .int .i64 d.expires, .bool d.archived] 26)
  have b0 := Blk.new w (.cells #[.int .i64 d.id, .int .i64 d.org, .int .i64 d.format, .int .i64 d.length, .int .i64 d.block, .int .i64 d.keyAt, .int .i64 d.keyLength, .int .i64 d.interval, .int .i64 d.area, .int .i64 d.freeInterval, .int .i64 d.freeArea, .int .i64 d.base, .int .i64 d.altAt, .int .i64 d.altLength, .bool d.unique, .int .i64 d.cls, .string ⟨d.volume.toArray⟩, .string ⟨d.owner.toArray⟩, .int .i64 d.created, .int .i64 d.expires, .bool d.archived] 26)
  have x1 := Ext.alloc (w.alloc (.cells #[.int .i64 d.id, .int .i64 d.org, .int .i64 d.format, .int .i64 d.length, .int .i64 d.block, .int .i64 d.keyAt, .int .i64 d.keyLength, .int .i64 d.interval, .int .i64 d.area, .int .i64 d.freeInterval, .int .i64 d.freeArea, .int .i64 d.base, .int .i64 d.altAt, .int .i64 d.altLength, .bool d.unique, .int .i64 d.cls, .string ⟨d.volume.toArray⟩, .string ⟨d.owner.toArray⟩, .int .i64 d.created, .int .i64 d.expires, .bool d.archived] 26)) (.cells #[.int .i64 h.applied, .int .i64 h.count, .int .i64 h.fin, .int .i64 h.root, .int .i64 h.height, .int .i64 h.splits, .int .i64 h.areas] 24)
  have b1 := Blk.new (w.alloc (.cells #[.int .i64 d.id, .int .i64 d.org, .int .i64 d.format, .int .i64 d.length, .int .i64 d.block, .int .i64 d.keyAt, .int .i64 d.keyLength, .int .i64 d.interval, .int .i64 d.area, .int .i64 d.freeInterval, .int .i64 d.freeArea, .int .i64 d.base, .int .i64 d.altAt, .int .i64 d.altLength, .bool d.unique, .int .i64 d.cls, .string ⟨d.volume.toArray⟩, .string ⟨d.owner.toArray⟩, .int .i64 d.created, .int .i64 d.expires, .bool d.archived] 26)) (.cells #[.int .i64 h.applied, .int .i64 h.count, .int .i64 h.fin, .int .i64 h.root, .int .i64 h.height, .int .i64 h.splits, .int .i64 h.areas] 24)
  have x2 := Ext.alloc ((w.alloc (.cells #[.int .i64 d.id, .int .i64 d.org, .int .i64 d.format, .int .i64 d.length, .int .i64 d.block, .int .i64 d.keyAt, .int .i64 d.keyLength, .int .i64 d.interval, .int .i64 d.area, .int .i64 d.freeInterval, .int .i64 d.freeArea, .int .i64 d.base, .int .i64 d.altAt, .int .i64 d.altLength, .bool d.unique, .int .i64 d.cls, .string ⟨d.volume.toArray⟩, .string ⟨d.owner.toArray⟩, .int .i64 d.created, .int .i64 d.expires, .bool d.archived] 26)).alloc (.cells #[.int .i64 h.applied, .int .i64 h.count, .int .i64 h.fin, .int .i64 h.root, .int .i64 h.height, .int .i64 h.splits, .int .i64 h.areas] 24)) (.cells #[.int .i64 0, .int .i64 0, .int .i64 0, .int .i64 0, .int .i64 0, .int .i64 0, .int .i64 0] 24)
  have b2 := Blk.new ((w.alloc (.cells #[.int .i64 d.id, .int .i64 d.org, .int .i64 d.format, .int .i64 d.length, .int .i64 d.block, .int .i64 d.keyAt, .int .i64 d.keyLength, .int .i64 d.interval, .int .i64 d.area, .int .i64 d.freeInterval, .int .i64 d.freeArea, .int .i64 d.base, .int .i64 d.altAt, .int .i64 d.altLength, .bool d.unique, .int .i64 d.cls, .string ⟨d.volume.toArray⟩, .string ⟨d.owner.toArray⟩, .int .i64 d.created, .int .i64 d.expires, .bool d.archived] 26)).alloc (.cells #[.int .i64 h.applied, .int .i64 h.count, .int .i64 h.fin, .int .i64 h.root, .int .i64 h.height, .int .i64 h.splits, .int .i64 h.areas] 24)) (.cells #[.int .i64 0, .int .i64 0, .int .i64 0, .int .i64 0, .int .i64 0, .int .i64 0, .int .i64 0] 24)
  simp only [World.size_alloc] at b1 b2
  have Hin := Lib.hid (And.intro hp (And.intro hpl (And.intro hb (And.intro hbl (And.intro hnP hk)))))
  have HO : Hid (∀ e w', BldOut h d T w e w' → BldOut h d T w e w') := Lib.hid (fun _ _ h1 => h1)
  clear hp hpl hb hbl hnP hk hbase hne hord hT
  generalize hOU : BldOut h d T w = OUT at *
  have HOU := Lib.hid hOU
  clear hOU HO
  go_enter Tryz.func21, Tryz.ntmps21
  go_upto_region 1 with fail
  refine wp_name (fun w0 => Ext w w0 ∧ DsAt w0 w.heap.size d ∧ HdAt w0 (w.heap.size + 1) h ∧ Blk w0 (w.heap.size + 1 + 1) (.cells #[.int .i64 0, .int .i64 0, .int .i64 0, .int .i64 0, .int .i64 0, .int .i64 0, .int .i64 0] 24)) ⟨(x0.trans x1).trans x2, x2.blk _ _ (x1.blk _ _ b0), x2.blk _ _ b1, b2⟩ ?_
  clear x0 b0 x1 b1 x2 b2
  rintro w0 ⟨hx0, hd0, hh0, hz0⟩
  go_upto_region 3 with (first
    | ((with_reducible (show wpList _ _ _ (⟨some 17, _, _, _, _, _⟩ :: _) _ _)); refine wpList_hd (o := ⟨some 17, _, _, _, _, _⟩) rfl (.tmp 5) rfl _ rfl h hh0 ?_)
    | ((with_reducible (show wpList _ _ _ (⟨some 18, _, _, _, _, _⟩ :: _) _ _)); refine wpList_ds (o := ⟨some 18, _, _, _, _, _⟩) rfl (.tmp 4) rfl _ rfl d hd0 ?_)
    | (go_at_call 40; refine (HBd.out _ hx0).mono ?_; rintro e w1 ⟨rfl, he1⟩))
  have hx1 := hx0.trans he1
  have hd1 := hd0.ext he1
  have hh1 := hh0.ext he1
  have hz1 := he1.blk _ _ hz0
  clear hx0 hd0 hh0 hz0 he1 HBd
  go_upto_region 4 with (first
    | ((with_reducible (show wpList _ _ _ (⟨some 24, _, _, _, _, _⟩ :: _) _ _)); refine wpList_hd (o := ⟨some 24, _, _, _, _, _⟩) rfl (.tmp 5) rfl _ rfl h hh1 ?_)
    | ((with_reducible (show wpList _ _ _ (⟨some 25, _, _, _, _, _⟩ :: _) _ _)); refine wpList_ds (o := ⟨some 25, _, _, _, _, _⟩) rfl (.tmp 4) rfl _ rfl d hd1 ?_)
    | ((with_reducible (show wpList _ _ _ (⟨some 26, _, _, _, _, _⟩ :: _) _ _)); refine wpList_bld (o := ⟨some 26, _, _, _, _, _⟩) rfl 93 #[(0, .tmp 24), (1, .tmp 25)] rfl [(0, .agg #[.int .i64 h.applied, .int .i64 h.count, .int .i64 h.fin, .int .i64 h.root, .int .i64 h.height, .int .i64 h.splits, .int .i64 h.areas]), (1, .agg #[.int .i64 d.id, .int .i64 d.org, .int .i64 d.format, .int .i64 d.length, .int .i64 d.block, .int .i64 d.keyAt, .int .i64 d.keyLength, .int .i64 d.interval, .int .i64 d.area, .int .i64 d.freeInterval, .int .i64 d.freeArea, .int .i64 d.base, .int .i64 d.altAt, .int .i64 d.altLength, .bool d.unique, .int .i64 d.cls, .string ⟨d.volume.toArray⟩, .string ⟨d.owner.toArray⟩, .int .i64 d.created, .int .i64 d.expires, .bool d.archived])] rfl _ (wtBuilt h d) ?_))
  refine wp_name (fun w2 => Ext w w2 ∧ Blk w2 w1.heap.size (.cells (wtC h d (.slice none 0 0)) 93) ∧ Blk w2 (w.heap.size + 1 + 1) (.cells #[.int .i64 0, .int .i64 0, .int .i64 0, .int .i64 0, .int .i64 0, .int .i64 0, .int .i64 0] 24)) ⟨hx1.trans (Ext.alloc _ _), Blk.new w1 _, (Ext.alloc _ _).blk _ _ hz1⟩ ?_
  have hwb := hx1.size
  clear hd1 hh1 hx1 hz1
  generalize w1.heap.size = wb at *
  rintro w2 ⟨hx2, hw2, hz2⟩
  have k4 : w2.cell? ⟨wb, 4, none⟩ = some (.int .i64 h.height) := Blk.val hw2 4 _ rfl
  have f4 := Blk.free hw2 4
  have l4 := Blk.lt hw2
  go_upto_region 6 with fail
  have hcw := Chg.setCell (w := w2) (g := wb) (i := 4) (v := .int .i64 0)
  refine wp_name (fun w3 => Ext w w3 ∧ WrS w.heap.size wb { h with height := 0 } d [] w3 ∧ Blk w3 (w.heap.size + 1 + 1) (.cells #[.int .i64 0, .int .i64 0, .int .i64 0, .int .i64 0, .int .i64 0, .int .i64 0, .int .i64 0] 24)) ⟨hcw.ext hx2 hwb, ⟨none, 0, Blk.setCell hw2, World.ownsRow_nil _ _ _ _, hwb⟩, hcw.blk hz2 (ndBlk hz2 hw2 (by decide))⟩ ?_
  clear hcw hx2 hw2 hz2 k4 f4 l4
  rintro w3 ⟨hx3, hs3, hz3⟩
  have HQ3 := Lib.hid (And.intro hx3 (And.intro hs3 hz3))
  clear hx3 hs3 hz3
  obtain ⟨rb, hrb⟩ : ∃ rb, rb = w.heap.size + 1 + 1 := ⟨_, rfl⟩
  go_loopw [12, 3] (fun v12 v3 wr => ∃ (f lv : Nat) (fin : Int) (PA' : List Int) (BO' : List (List UInt8)) (q1 q2 : Option Addr) (c1 c2 : Nat) (low : List UInt8) (done : List (Int × Nd)), v12 = .slice q1 PA'.length c1 ∧ v3 = .slice q2 BO'.length c2 ∧ PA'.length = BO'.length + 1 ∧ lv + f ≤ 6 ∧ BO'.length < 3 ^ f ∧ fin = h.fin + done.length ∧ done.length + BO'.length ≤ nB ∧ pageB (PA'.getD 0 0) = true ∧ (∀ r ∈ pairsB PA' BO', pageB r.2 = true ∧ r.1 ≠ [] ∧ r.1.length ≤ 32) ∧ Srt ((low, PA'.getD 0 0) :: pairsB PA' BO') ∧
    T = ((bldGo d.interval f (lv : Int) fin (PA'.getD 0 0) (pairsB PA' BO')).1, (bldGo d.interval f (lv : Int) fin (PA'.getD 0 0) (pairsB PA' BO')).2.1, (bldGo d.interval f (lv : Int) fin (PA'.getD 0 0) (pairsB PA' BO')).2.2.1, done ++ (bldGo d.interval f (lv : Int) fin (PA'.getD 0 0) (pairsB PA' BO')).2.2.2) ∧
    WrS w.heap.size wb { h with height := (lv : Int), fin := fin } d (wrN d done) wr ∧ StI w.heap.size q1 PA' wr ∧ StS w.heap.size q2 BO' wr ∧ Blk wr (w.heap.size + 1 + 1) (.cells #[.int .i64 0, .int .i64 0, .int .i64 0, .int .i64 0, .int .i64 0, .int .i64 0, .int .i64 0] 24) ∧ Ext w wr) (fun v12 _ _ => sliceLen v12)
  case atStart => exact ⟨6, 0, h.fin, PA, BO, qp, qb, cp, cb, [], [], by rw [Hin.out.2.1], by rw [Hin.out.2.2.2.1], by rw [Hin.out.2.1, Hin.out.2.2.2.1]; exact Hin.out.2.2.2.2.1, by omega, by rw [Hin.out.2.2.2.1]; omega, by simp, by rw [Hin.out.2.2.2.1]; simp, HSt.out.2.2, HSt.out.2.1, HSt.out.1, by rw [HT.out]; rfl, HQ3.out.2.1, StI.old Hin.out.1 HQ3.out.1, StS.old Hin.out.2.2.1 HQ3.out.1, HQ3.out.2.2, HQ3.out.1⟩
  case round =>
    obtain ⟨f, lv, fin, PA', BO', q1, q2, c1, c2, low, done, rfl, rfl, g1, g2, g3, g4, g5, g6, g7, g8, g9, s1, s2, s3, s4, s5⟩ := hrel
    have HW := Lib.hid s1
    have HS := Lib.hid (And.intro s2 (And.intro s3 (And.intro s4 s5)))
    have HR := Lib.hid (And.intro g5 (And.intro g6 (And.intro g7 (And.intro g8 g9))))
    by_cases hB : 1 ≤ BO'.length
    · have hgt : (1 : Int) < ((PA'.length : Nat) : Int) := by omega
      have hgtN : 1 < PA'.length := by omega
      obtain ⟨f', hf'⟩ : ∃ f', f = f' + 1 := by
        cases f with
        | zero => rw [Nat.pow_zero] at g3; omega
        | succ f' => exact ⟨f', rfl⟩
      have hlv5 : lv ≤ 5 := by omega
      have hl6 : (((lv : Nat) : Int) == 6) = false := by simp; omega
      have hl6N : ¬ lv = 6 := by omega
      obtain ⟨lv1, hlv1⟩ : ∃ lv1 : Nat, lv1 = lv + 1 := ⟨_, rfl⟩
      have hwl : IntKind.i64.wrap (((lv : Nat) : Int) + 1) = ((lv1 : Nat) : Int) := by rw [IntWalk.i64_in _ (by omega)]; omega
      have Hlv1 := Lib.hid hlv1
      obtain ⟨q0, c0, hwb0, hwo0, hwB⟩ := s1
      have k4 : wr.cell? ⟨wb, 4, none⟩ = some (.int .i64 ((lv : Nat) : Int)) := Blk.val hwb0 4 _ rfl
      have f4 := Blk.free hwb0 4
      have l4 := Blk.lt hwb0
      have HWb := Lib.hid (And.intro hwb0 hwo0)
      have Hf' := Lib.hid hf'
      have Hg := Lib.hid (And.intro g1 (And.intro g2 (And.intro g3 g4)))
      clear hlv1 hf' hwb0 hwo0 g1 g2 g3 g4 g5 g6 g7 g8 g9 s2 s3 s4 s5
      go_upto_region 11 with fail
      have hcw4 := Chg.setCell (w := wr) (g := wb) (i := 4) (v := .int .i64 ((lv1 : Nat) : Int))
      refine wp_name (fun w4 => TWr w.heap.size wr w4 ∧ WrS w.heap.size wb { h with height := ((lv1 : Nat) : Int), fin := fin } d (wrN d done) w4) ⟨TWr.ofW (rty_chg HWb.out.1 hwB hcw4), ⟨q0, c0, Blk.setCell HWb.out.1, own_chgT HWb.out.2 (by decide) HWb.out.1 hcw4, hwB⟩⟩ ?_
      clear hcw4 k4 f4 l4
      rintro w4 ⟨ht4, hw4⟩
      have HT4 := Lib.hid ht4
      have HW4 := Lib.hid hw4
      obtain ⟨q4, c4, hwb4, _, _⟩ := hw4
      have k4 : w4.cell? ⟨wb, 4, none⟩ = some (.int .i64 ((lv1 : Nat) : Int)) := Blk.val hwb4 4 _ rfl
      have k14 : w4.cell? ⟨wb, 14, none⟩ = some (.int .i64 d.interval) := Blk.val hwb4 14 _ rfl
      have l4 := Blk.lt hwb4
      have HLv := Lib.hid (level_any wb ((lv1 : Nat) : Int) d.interval q1 c1 PA'.length PA' q2 c2 BO'.length BO' w4 (HS.out.1 _ ht4) rfl (HS.out.2.1 _ (TIr.ofT ht4)) rfl Hg.out.1 (by have := Hg.out.1; have := HR.out.1; omega) k14 l4)
      obtain ⟨LV, hLV⟩ : ∃ LV, LV = levGo d.interval ((lv1 : Nat) : Int) PA'.length (PA'.getD 0 0) (pairsB PA' BO') := ⟨_, rfl⟩
      rw [← hLV] at HLv
      unfold LevOut at HLv
      have HLV := Lib.hid hLV
      clear hLV ht4 hwb4 k14
      go_upto_region 14 with (go_at_call 41; refine HLv.out.mono ?_; rintro e w5 ⟨he5, X, qn, cn, qs, cs, hX, rfl, ho5, hr5, hs5⟩)
      have hpl2 : (pairsB PA' BO').length = BO'.length := by
        have := Hg.out.1
        unfold pairsB
        rw [List.length_zip, List.length_drop]
        omega
      have HLP := Lib.hid (lev_pure (d := d) (keyed_nums Hin.out.2.2.2.2.2).1 (lv := ((lv : Nat) : Int)) (fin := fin) (p := PA'.getD 0 0) (low := low) (R := pairsB PA' BO') (by omega) (by omega) HR.out.2.1 HR.out.2.2.1 HR.out.2.2.2.1 (by omega) (by have := Hg.out.2.2.2; omega) (by have := Hg.out.2.2.2; have := HR.out.1; omega))
      have hLVe : levGo d.interval (((lv : Nat) : Int) + 1) ((pairsB PA' BO').length + 1) (PA'.getD 0 0) (pairsB PA' BO') = LV := by
        rw [HLV.out, Hlv1.out, hpl2, ← Hg.out.1]
        rfl
      rw [hLVe] at HLP
      have hXl : X.length = LV.1.length := by rw [← hX, List.length_map]
      have hw5 := HW4.out.ext he5
      have HX5 := Lib.hid (And.intro hX (And.intro hXl (And.intro ho5 (And.intro hr5 (And.intro hs5 he5)))))
      have hT5 : TWr w.heap.size wr w5 := HT4.out.trans (TWr.ofExt he5 (by have := HS.out.2.2.2.size; have := HT4.out.1.size; omega))
      have HT5 := Lib.hid hT5
      obtain ⟨nX, hnX⟩ : ∃ nX, nX = X.length := ⟨_, rfl⟩
      have HnX := Lib.hid hnX
      have hnX2 : nX ≤ 101 := by
        have := HLP.out.1
        have := HLP.out.2.1
        have := HR.out.1
        omega
      clear hpl2 hLVe hX hXl ho5 hr5 hs5 he5 hT5 HLv
      rw [← hnX]
      clear hnX
      go_loopw [66, 12] (fun i v12 wr => ∃ k : Nat, k ≤ nX ∧ i = .int .i64 k ∧ wr.ownsRow w.heap.size 3 1 v12 k (intC ((List.range k).map fun j : Nat => fin + 1 + (j : Int))) ∧ WrS w.heap.size wb { h with height := ((lv1 : Nat) : Int), fin := fin + (k : Int) } d (wrN d done ++ wrN d ((numN fin LV.1).take k)) wr ∧ TIr w.heap.size w5 wr) (fun i _ _ => nX - (intOf i).toNat)
      case atStart => exact ⟨0, Nat.zero_le _, rfl, World.ownsRow_nil _ _ _ _, by simpa [wrN] using hw5, ⟨Below.refl _ _, fun _ _ _ _ _ _ h => h⟩⟩
      case round =>
        obtain ⟨k, hk, rfl, hpo, hws, htr⟩ := hrel
        obtain ⟨qg, cg, rfl⟩ := own_slice hpo
        by_cases hkX : k < nX
        · have hkI : (k : Int) < nX := by omega
          have hkL : k < X.length := by rw [← HnX.out]; exact hkX
          have hoN := TIr.own HX5.out.2.2.1 (by decide) (by decide) (by decide) htr
          obtain ⟨gN, curN, hqN, _, hbN, _, _, _, htk⟩ := own_parts hoN (by omega)
          subst hqN
          have hcell : ∀ i u, i < X.length * 3 → (ndC X)[i]? = some u → wr.cell? ⟨gN, i, none⟩ = some u := fun i u hi hu => by
            rw [← htk, List.getElem?_take_of_lt hi, Array.getElem?_toList] at hu
            exact Blk.val hbN i u hu
          obtain ⟨e0, e1, e2⟩ := ndC_at X k hkL
          have n0 := hcell _ _ (by omega) e0
          have n1 := hcell _ _ (by omega) e1
          have n2 := hcell _ _ (by omega) e2
          have lN := Blk.lt hbN
          have hoX := TIr.own (HX5.out.2.2.2.1 X[k] (List.getElem_mem hkL)) (by decide) (by decide) (by decide) htr
          have hnk : LV.1[k]? = some X[k].1 := by rw [← HX5.out.1, List.getElem?_map, List.getElem?_eq_getElem hkL]; rfl
          generalize X[k] = x at *
          obtain ⟨nd, qx, cx⟩ := x
          simp only at n0 n1 n2 hoX hnk
          have HK := Lib.hid (And.intro hpo (And.intro hws (And.intro htr (And.intro hoX hnk))))
          clear hcell e0 e1 e2 hoN hbN htk hpo hws htr hoX hnk
          go_upto_region 16 with fail
          have hxn := Ext.alloc wr (.cells #[.int .i64 nd.level, .int .i64 nd.next, .slice qx nd.ents.length cx] 53)
          have hbn := Blk.new wr (.cells #[.int .i64 nd.level, .int .i64 nd.next, .slice qx nd.ents.length cx] 53)
          refine wp_name (fun w6 => Ext wr w6 ∧ Blk w6 wr.heap.size (.cells #[.int .i64 nd.level, .int .i64 nd.next, .slice qx nd.ents.length cx] 53)) ⟨hxn, hbn⟩ ?_
          clear hxn hbn n0 n1 n2 lN
          have hszr : w.heap.size ≤ wr.heap.size := by
            have h1 := HS.out.2.2.2.size
            have h2 := HT5.out.1.size
            have h3 := HK.out.2.2.1.1.size
            omega
          obtain ⟨wk, hwk⟩ : ∃ wk : World, wk = wr := ⟨_, rfl⟩
          rw [← hwk]
          have Hwk := Lib.hid hwk
          rw [← hwk] at hszr
          clear hwk
          generalize hnb : wk.heap.size = nb at *
          have Hnb := Lib.hid hnb
          clear hnb
          rintro w6 ⟨hx6, hb6⟩
          have hx6r : Ext wr w6 := by rw [← Hwk.out]; exact hx6
          have hsz6 : w.heap.size ≤ w6.heap.size := by have := hx6.size; have := Hnb.out; omega
          have HFr : Hid (Calls Tryz.prog 42 #[.pointer (some ⟨wb, 0, none⟩)] w6 fun e w' => e = .returned (.int .i64 (fin + (k : Int) + 1)) ∧ WrS w.heap.size wb { h with height := ((lv1 : Nat) : Int), fin := fin + (k : Int) + 1 } d (wrN d done ++ wrN d ((numN fin LV.1).take k)) w' ∧ TWr w.heap.size w6 w') := Lib.hid (fresh_any w.heap.size wb { h with height := ((lv1 : Nat) : Int), fin := fin + (k : Int) } d _ w6 (HK.out.2.1.ext hx6r) (by have := Hg.out.2.2.2; have := HR.out.1; simp only; omega))
          have Hpg := Lib.hid (own_ext HK.out.1 hx6r)
          have Hx6 := Lib.hid (And.intro hx6r hb6)
          clear hx6 hb6 hx6r
          go_upto_region 17 with (first
            | (go_at_call 42; refine HFr.out.mono ?_; rintro e w7 ⟨rfl, hs7, ht7⟩)
            | (at_builtin; go_must (refine wpList_app rfl (.tmp 71) (.tmp 74) 30 3 rfl w.heap.size (.int .i64 0) 1 8 Tryz.underlying30 infoInt rfl (by decide) _ k _ rfl (own_ext (TWr.own Hpg.out (by decide) (by decide) ht7) (Ext.alloc w7 _)) _ [.int .i64 (fin + (k : Int) + 1)] rfl (Blk.new w7 _) rfl (by intro u hu; simp at hu; subst hu; rfl) (by omega) (by decide) (by have := ht7.1.size; simp; omega) ?_; intro v8 w8 hout8 hgr8; have r8 := rty_app (T := 3) hgr8 (own_ext (TWr.own Hpg.out (by decide) (by decide) ht7) (Ext.alloc w7 _)) (by have := ht7.1.size; simp; omega); obtain ⟨qg2, cg2, rfl⟩ := own_slice hout8; have Hr8 := Lib.hid r8; have Hout8 := Lib.hid hout8; clear hout8 hgr8 r8)))
          have hsz8 : w.heap.size ≤ w7.heap.size := Nat.le_trans hsz6 ht7.1.size
          have T68 : TIr w.heap.size w6 w8 := (TIr.ofT ht7).trans ((TIr.ofExt (Ext.alloc w7 _) hsz8).trans (TIr.ofI Hr8.out))
          have hs8 := WrS.rty (hs7.ext (Ext.alloc w7 (.cells #[.int .i64 (fin + (k : Int) + 1)] 3))) (by decide) (by decide) Hr8.out
          have T58 := HK.out.2.2.1.trans ((TIr.ofExt Hx6.out.1 (by have h1 := HS.out.2.2.2.size; have h2 := HT5.out.1.size; have h3 := HK.out.2.2.1.1.size; omega)).trans T68)
          have hn8 := T68.2 _ _ _ (by decide) (by decide) (by decide) Hx6.out.2
          have hX8 := TIr.own (own_ext HK.out.2.2.2.1 Hx6.out.1) (by decide) (by decide) (by decide) T68
          have hio : intC ((List.range (k + 1)).map fun j : Nat => fin + 1 + (j : Int)) = intC ((List.range k).map fun j : Nat => fin + 1 + (j : Int)) ++ [.int .i64 (fin + (k : Int) + 1)] := by
            rw [List.range_succ, List.map_append]
            simp [intC]; omega
          have hu8 : (intC ((List.range k).map fun j : Nat => fin + 1 + (j : Int)) ++ [Value.int .i64 (fin + (k : Int) + 1)])[k]? = some (.int .i64 (fin + (k : Int) + 1)) := by
            rw [List.getElem?_append_right (by simp [intC])]
            simp [intC]
          have hkV : k < LV.1.length := by have := HX5.out.2.1; have := HnX.out; omega
          have hfx : 0 ≤ fin ∧ fin ≤ 2000 := by have := Hg.out.2.2.2; have := HR.out.1; omega
          obtain ⟨nx, hnx⟩ : ∃ nx, nx = if k + 1 < LV.1.length then fin + (k : Int) + 1 + 1 else nd.next := ⟨_, rfl⟩
          have hN : (numN fin LV.1)[k]? = some (fin + (k : Int) + 1, { nd with next := nx }) := by
            have h9 := numN_at2 fin LV.1 k hkV
            have e9 : LV.1[k] = nd := by
              have := HK.out.2.2.2.2
              rw [List.getElem?_eq_getElem hkV] at this
              exact Option.some.inj this
            rw [e9, show fin + 1 + (k : Int) = fin + (k : Int) + 1 by omega, ← hnx] at h9
            exact h9
          have hEnc := (HLP.out.2.2.1 _ (List.mem_of_getElem? hN)).1
          have hWt := wrN_take (d := d) hN
          simp only at hEnc hWt
          have hel : nd.ents.length ≤ 1000000 := by
            have h1 := (encNE_zero hEnc).2.1
            have h2 := (node_iff.1 h1).l2
            simp only at h2
            omega
          obtain ⟨gP, hqP, c8, l8⟩ := own_at1 Hout8.out (Nat.lt_succ_self k) hu8
          subst hqP
          have HN := Lib.hid (And.intro hEnc (And.intro hWt (And.intro hio (And.intro hu8 hel))))
          obtain ⟨nX1, hnX1⟩ : ∃ nX1, nX1 = nX - 1 := ⟨_, rfl⟩
          have hwX : IntKind.i64.wrap ((nX : Int) - 1) = ((nX1 : Nat) : Int) := by rw [IntWalk.i64_in _ (by omega)]; omega
          have hwp : IntKind.i64.wrap (fin + (k : Int) + 1 + 1) = fin + (k : Int) + 1 + 1 := IntWalk.i64_in _ (by omega)
          obtain ⟨n1, hn1⟩ : ∃ n1, n1 = k + 1 := ⟨_, rfl⟩
          have ho8 := Hout8.out
          rw [← hn1] at ho8 ⊢
          have hkn1 : (k : Int) < ((n1 : Nat) : Int) := by omega
          have hkn1N : k < n1 := by omega
          have Hn1 := Lib.hid hn1
          have Hnx := Lib.hid hnx
          have hnb5 : w5.heap.size ≤ nb := by have h3 := HK.out.2.2.1.1.size; have := Hnb.out; have := Hwk.out; subst this; omega
          have hnbB : w.heap.size ≤ nb := by have := Hnb.out; omega
          have Hlast : Hid (k < nX1 ↔ k + 1 < LV.1.length) := Lib.hid (by have := HX5.out.2.1; have := HnX.out; omega)
          have HnX1 := Lib.hid hnX1
          clear hn1 hnx hEnc hWt hio hu8 hel hN hnX1 Hout8 hs7 ht7 Hr8
          by_cases hlast : k < nX1
          case' pos =>
            have hlI : (k : Int) < ((nX1 : Nat) : Int) := by omega
            have hne : nx = fin + (k : Int) + 1 + 1 := by rw [Hnx.out, if_pos (Hlast.out.1 hlast)]
            have f1 := Blk.free hn8 1
            have k1n : w8.cell? ⟨nb, 1, none⟩ = some (.int .i64 nd.next) := Blk.val hn8 1 _ rfl
            have ln8 := Blk.lt hn8
            go_upto_region 19 with fail
            have hcn := Chg.setCell (w := w8) (g := nb) (i := 1) (v := .int .i64 (fin + (k : Int) + 1 + 1))
            refine wp_name (fun w9 => WrS w.heap.size wb { h with height := ((lv1 : Nat) : Int), fin := fin + (k : Int) + 1 } d (wrN d done ++ wrN d ((numN fin LV.1).take k)) w9 ∧ TIr w.heap.size w5 w9 ∧ Blk w9 nb (.cells #[.int .i64 nd.level, .int .i64 nx, .slice qx nd.ents.length cx] 53) ∧ w9.ownsRow 0 75 2 (.slice qx nd.ents.length cx) nd.ents.length (entCells nd.ents) ∧ w9.ownsRow w.heap.size 3 1 (.slice (some ⟨gP, 0, none⟩) n1 cg2) n1 (intC ((List.range k).map fun j : Nat => fin + 1 + (j : Int)) ++ [.int .i64 (fin + (k : Int) + 1)])) ⟨hs8.chgT hn8 (by decide) (by decide) hcn, T58.chg hnb5 hnbB hn8 hcn, by rw [hne]; exact Blk.setCell hn8, own_chgT hX8 (by decide) hn8 hcn, own_chgT ho8 (by decide) hn8 hcn⟩ ?_
            clear hlI hne f1 k1n ln8 hcn
          case' neg =>
            have hlI : decide ((k : Int) < ((nX1 : Nat) : Int)) = false := decide_eq_false (by omega)
            have hne : nx = nd.next := by rw [Hnx.out, if_neg (fun h9 => hlast (Hlast.out.2 h9))]
            go_upto_region 19 with fail
            refine wp_name (fun w9 => WrS w.heap.size wb { h with height := ((lv1 : Nat) : Int), fin := fin + (k : Int) + 1 } d (wrN d done ++ wrN d ((numN fin LV.1).take k)) w9 ∧ TIr w.heap.size w5 w9 ∧ Blk w9 nb (.cells #[.int .i64 nd.level, .int .i64 nx, .slice qx nd.ents.length cx] 53) ∧ w9.ownsRow 0 75 2 (.slice qx nd.ents.length cx) nd.ents.length (entCells nd.ents) ∧ w9.ownsRow w.heap.size 3 1 (.slice (some ⟨gP, 0, none⟩) n1 cg2) n1 (intC ((List.range k).map fun j : Nat => fin + 1 + (j : Int)) ++ [.int .i64 (fin + (k : Int) + 1)])) ⟨hs8, T58, by rw [hne]; exact hn8, hX8, ho8⟩ ?_
            clear hlI hne
          all_goals
            clear hs8 T58 T68 hn8 hX8 ho8 c8 l8 hwX hwp hlast
            rintro w9 ⟨hs9, T59, hn9, hX9, ho9⟩
            obtain ⟨gP2, hqP2, c9, l9⟩ := own_at1 ho9 hkn1N HN.out.2.2.2.1
            simp only [Option.some.injEq, Addr.mk.injEq, and_true] at hqP2
            subst hqP2
            have HPu : Hid (∀ W, Ext w9 W → Calls Tryz.prog 43 #[.pointer (some ⟨wb, 0, none⟩), .int .i64 (fin + (k : Int) + 1), .agg #[.int .i64 nd.level, .int .i64 nx, .slice qx nd.ents.length cx]] W fun e w' => e = .returned (.int .i64 0) ∧ WrS w.heap.size wb { h with height := ((lv1 : Nat) : Int), fin := fin + (k : Int) + 1 } d ((wrN d done ++ wrN d ((numN fin LV.1).take k)) ++ [(fin + (k : Int) + 1, encNS d.interval { nd with next := nx })]) w' ∧ TWr w.heap.size W w') := Lib.hid (fun W e => by
              have := put_any w.heap.size wb _ d _ (fin + (k : Int) + 1) { nd with next := nx } qx cx W (hs9.ext e) (own_cellsND (own_ext hX9 e)) HN.out.2.2.2.2 (by rw [List.length_append, wrN_len, wrN_len]; have := List.length_take_le k (numN fin LV.1); have := Hg.out.2.2.2; have := HR.out.1; omega)
              unfold ndV at this
              rw [HN.out.1] at this
              exact this)
            have HQ9 := Lib.hid (And.intro hs9 (And.intro T59 ho9))
            have hsz9 : w.heap.size ≤ w9.heap.size := by have h1 := HS.out.2.2.2.size; have h2 := HT5.out.1.size; have h3 := T59.1.size; omega
            clear hs9 T59 hX9 ho9
            refine wp_region_mk 6 (Ext.refl w9) (by kernel_rfl) (by kernel_rfl) (by kernel_rfl) ?_
            simp only [List.take_succ_cons, List.take_zero, List.take_nil, List.drop_succ_cons, List.drop_zero, List.drop_nil, List.map_cons, List.map_nil]
            repeat (first
              | (refine wpML_det (o := ⟨some 92, _, _, _, _, _⟩) (v := .agg #[.int .i64 nd.level, .int .i64 nx, .slice qx nd.ents.length cx]) rfl ?_ ?_
                 · intro a w' he hr K hK
                   simp [Reads, Oper.looksAt, Op.operands, factAt, Is] at hr
                   exact wp_load_row 53 (.tmp 15) rfl (nb) (by go_simp) _ _ _ _ (he.blk _ _ hn9) ndDesc rfl ndSize (hK _ (Ext.refl _))
                 simp only [setL, List.set_cons_succ, List.set_cons_zero])
              | (refine wpML_move _ _ rfl (by first | exact .inl rfl | exact .inr rfl) rfl (by first | exact Is.stable _ | exact AppF.stable _ | exact WrF.stable _ | exact PtrF.stable _ _ | exact IfcF.stable (Fresh.stable _ _ _) _ | exact PairF.stable (RowF.stable _ _ _ _) _ | exact RowF.stable _ _ _ _ | exact Fresh.stable _ _ _) ?_
                 simp only [setL, List.set_cons_succ, List.set_cons_zero, List.getD_cons_succ, List.getD_cons_zero])
              | (refine wpML_moveC _ rfl (by first | exact .inl rfl | exact .inr rfl) ?_
                 simp only [setL, List.set_cons_succ, List.set_cons_zero])
              | (apply wpML_det rfl
                 · intro a w' he hr K hK
                   simp [Reads, Oper.looksAt, Op.operands, Call.operands, factAt, Is] at hr
                   have hx := he.cell
                   go_simp
                   try go_bits
                   try (rw [if_neg (by omega)]; go_simp)
                   first
                     | exact hK _ (Ext.refl _)
                 simp only [setL, List.set_cons_succ, List.set_cons_zero])
              | (apply wpML_det rfl
                 · intro a w' he hr K hK
                   simp [Reads, Oper.looksAt, Op.operands, Call.operands, factAt, Fresh] at hr
                   obtain ⟨b, hr1, hr2⟩ := hr
                   go_simp
                   exact hK _ (Ext.refl _)
                 simp only [setL, List.set_cons_succ, List.set_cons_zero]))
            intro w2 he2
            repeat (first | with_reducible refine rest_is _ _ _ _ ?_ | (with_reducible refine rest_fact _ _ _ _ ?_; intro _ _) | with_reducible refine rest_end _ _ ?_)
            simp only [List.reverse_cons, List.reverse_nil, List.nil_append, List.cons_append]
            go_wp2_with (go_at_call 43; refine (HPu.out _ he2).mono ?_; rintro e wA ⟨rfl, hsA, htA⟩)
            refine ⟨⟨k + 1, by omega, by go_num, ?_, ?_, ?_⟩, by simp [intOf]; omega⟩
            · have h1 := TWr.own (own_ext HQ9.out.2.2 he2) (by decide) (by decide) htA
              rw [HN.out.2.2.1]
              rw [Hn1.out] at h1 ⊢
              exact h1
            · rw [show fin + ((k + 1 : Nat) : Int) = fin + (k : Int) + 1 by omega, HN.out.2.1, ← List.append_assoc]
              exact hsA
            · exact HQ9.out.2.1.trans ((TIr.ofExt he2 hsz9).trans (TIr.ofT htA))
        · have hkX2 : k = nX := by omega
          have hge : decide ((k : Int) < (nX : Int)) = false := decide_eq_false (by omega)
          have HZ := Lib.hid (And.intro hpo (And.intro hws htr))
          have HkX := Lib.hid hkX2
          clear hpo hws htr hkX2 hk
          go_wp2_with fail
          have hkL : k = LV.1.length := by have := HX5.out.2.1; have := HnX.out; have := HkX.out; omega
          clear HkX hge
          subst hkL
          have hpl2 : (pairsB PA' BO').length = BO'.length := by
            have := Hg.out.1
            unfold pairsB
            rw [List.length_zip, List.length_drop]
            omega
          have hLl : LV.1.length = LV.2.length + 1 := HLP.out.1
          have hR3 : 3 * LV.2.length ≤ BO'.length := by have := HLP.out.2.1; omega
          have hPl : (List.map (fun j : Nat => fin + 1 + (j : Int)) (List.range LV.1.length)).length = LV.1.length := by simp
          have hd0 : (List.map (fun j : Nat => fin + 1 + (j : Int)) (List.range LV.1.length)).getD 0 0 = fin + 1 := by
            have e : (List.map (fun j : Nat => fin + 1 + (j : Int)) (List.range LV.1.length))[0]? = some (fin + 1) := by
              rw [List.getElem?_map, List.getElem?_range (by omega)]
              simp
            simp only [List.getD, e, Option.getD_some]
          have hnp : pairsB (List.map (fun j : Nat => fin + 1 + (j : Int)) (List.range LV.1.length)) LV.2 = numB (fin + 1) LV.2 := by
            rw [hLl]
            exact numB_pairs (fin + 1) LV.2
          have hLVe : LV = levGo d.interval (((lv : Nat) : Int) + 1) ((pairsB PA' BO').length + 1) (PA'.getD 0 0) (pairsB PA' BO') := by
            rw [HLV.out, Hlv1.out, hpl2, ← Hg.out.1]
            rfl
          have hne : pairsB PA' BO' ≠ [] := fun e => by rw [e] at hpl2; simp at hpl2; omega
          have hT2 : T = ((bldGo d.interval f' (lv1 : Int) (fin + (LV.1.length : Int)) (fin + 1) (numB (fin + 1) LV.2)).1, (bldGo d.interval f' (lv1 : Int) (fin + (LV.1.length : Int)) (fin + 1) (numB (fin + 1) LV.2)).2.1, (bldGo d.interval f' (lv1 : Int) (fin + (LV.1.length : Int)) (fin + 1) (numB (fin + 1) LV.2)).2.2.1, (done ++ numN fin LV.1) ++ (bldGo d.interval f' (lv1 : Int) (fin + (LV.1.length : Int)) (fin + 1) (numB (fin + 1) LV.2)).2.2.2) := by
            have g9 := HR.out.2.2.2.2
            rw [Hf'.out, bld_step hne hLVe] at g9
            rw [show ((lv1 : Nat) : Int) = (lv : Int) + 1 by have := Hlv1.out; omega, List.append_assoc]
            exact g9
          obtain ⟨low', hlow'⟩ := HLP.out.2.2.2.2.2
          have hpow : LV.2.length < 3 ^ f' := by
            have := Hg.out.2.2.1
            rw [Hf'.out, Nat.pow_succ] at this
            omega
          have hg2 := Hg.out.2.1
          have hg4 := Hg.out.2.2.2
          have hr1 := HR.out.1
          have hff := Hf'.out
          have hl1 := Hlv1.out
          have hNl := numN_len fin LV.1
          refine ⟨⟨f', lv1, fin + (LV.1.length : Int), List.map (fun j : Nat => fin + 1 + (j : Int)) (List.range LV.1.length), LV.2, qg, qs, cg, cs, low', done ++ numN fin LV.1, by rw [hPl], rfl, by rw [hPl]; exact hLl, by omega, hpow, by rw [List.length_append, hNl]; omega, by rw [List.length_append, hNl]; omega, by rw [hd0]; exact HLP.out.2.2.2.1, by rw [hnp]; exact HLP.out.2.2.2.2.1, by rw [hd0, hnp]; exact hlow', by rw [hd0, hnp]; exact hT2, ?_, StI.own HZ.out.1, (StS.own HX5.out.2.2.2.2.1).step HZ.out.2.2, HZ.out.2.2.2 _ _ _ (by decide) (by decide) (by decide) (HT5.out.2 _ _ _ (by decide) (by decide) HS.out.2.2.1), Ext.trans' (Ext.trans' HS.out.2.2.2 HT5.out.1) HZ.out.2.2.1⟩, by simp [sliceLen]; have := Hg.out.1; omega⟩
          have h1 := HZ.out.2.1
          rw [List.take_of_length_le (by rw [hNl]; exact Nat.le_refl _)] at h1
          have e : wrN d (done ++ numN fin LV.1) = wrN d done ++ wrN d (numN fin LV.1) := by unfold wrN; rw [List.map_append]
          rw [e]
          exact h1
    · have hB0 : BO' = [] := List.eq_nil_of_length_eq_zero (by omega)
      subst hB0
      have hP1 : PA'.length = 1 := by simpa using g1
      have hgt : decide ((1 : Int) < ((PA'.length : Nat) : Int)) = false := decide_eq_false (by omega)
      have hgtN : ¬ 1 < PA'.length := by omega
      have hp0I : (0 : Int) < ((PA'.length : Nat) : Int) := by omega
      have hp0N : 0 < PA'.length := by omega
      have hT9 : T = (PA'.getD 0 0, (lv : Int), fin, done) := by
        rw [g9]
        have e : pairsB PA' [] = [] := rfl
        rw [e, bld_nil]
        simp
      obtain ⟨g0, o0, rfl, lq, hcq⟩ := (s2 _ (TWr.ofExt (Ext.refl _) s5.size)).at 0 (by omega)
      have cq := hcq 0 (by omega)
      rw [Nat.add_zero] at cq
      have HT9 := Lib.hid hT9
      have HE9 := Lib.hid (And.intro s5 s4)
      have HSd : Hid ((wrN d done).length ≤ 100 ∧ (∀ x ∈ wrN d done, 0 ≤ x.1 ∧ x.1 ≤ 20000000) ∧ ordTo (wrN d done) (wrN d done).length) := Lib.hid (by
        have hp := HPu9.out
        rw [hT9] at hp
        obtain ⟨p1, p2⟩ := hp
        exact ⟨by rw [wrN_len]; exact p2, wrN_num p1 (by omega) (by omega), wrN_ord p1⟩)
      have Hpl := Lib.hid hP1
      obtain ⟨q0, c0, hwb0, hwo0, hwB⟩ := s1
      have k3 : wr.cell? ⟨wb, 3, none⟩ = some (.int .i64 h.root) := Blk.val hwb0 3 _ rfl
      have f3 := Blk.free hwb0 3
      have l3 := Blk.lt hwb0
      have HWb := Lib.hid (And.intro hwb0 (And.intro hwo0 hwB))
      clear hcq hT9 hP1 hwb0 hwo0 hwB g1 g2 g3 g4 g5 g6 g7 g8 g9 s2 s3 s4 s5 hB
      generalize PA'.getD 0 0 = rt at *
      go_upto_region 24 with fail
      have hcw := Chg.setCell (w := wr) (g := wb) (i := 3) (v := .int .i64 rt)
      obtain ⟨gH, hgH⟩ : ∃ gH : Hd, gH = ⟨h.applied, h.count, fin, rt, (lv : Int), h.splits, h.areas⟩ := ⟨_, rfl⟩
      refine wp_name (fun w10 => Ext w w10 ∧ (∃ q c, Blk w10 wb (.cells (wtC gH d (.slice q (wrN d done).length c)) 93) ∧ w10.ownsRow w.heap.size 65 2 (.slice q (wrN d done).length c) (wrN d done).length (wrC (wrN d done)) ∧ w.heap.size ≤ wb) ∧ Blk w10 (w.heap.size + 1 + 1) (.cells #[.int .i64 0, .int .i64 0, .int .i64 0, .int .i64 0, .int .i64 0, .int .i64 0, .int .i64 0] 24)) ⟨hcw.ext HE9.out.1 HWb.out.2.2, ⟨q0, c0, by rw [hgH]; exact Blk.setCell HWb.out.1, own_chgT HWb.out.2.1 (by decide) HWb.out.1 hcw, HWb.out.2.2⟩, hcw.blk HE9.out.2 (ndBlk HE9.out.2 HWb.out.1 (by decide))⟩ ?_
      clear hcw k3 f3 l3 cq lq HWb HE9
      rintro w10 ⟨hx10, hs10, hz10⟩
      have HSo : Hid (∀ W, Ext w10 W → Calls Tryz.prog 44 #[.pointer (some ⟨wb, 0, none⟩)] W fun e w' => ∃ q c, e = .returned (.slice q (wrN d done).length c) ∧ w'.ownsRow w.heap.size 65 2 (.slice q (wrN d done).length c) (wrN d done).length (wrC (wrN d done)) ∧ Ext W w') := Lib.hid (fun W e => sortedS_any w.heap.size wb gH d (wrN d done) W (WrS.ext hs10 e) HSd.out.1 HSd.out.2.1 HSd.out.2.2)
      obtain ⟨q1, c1', hb10, _, _⟩ := hs10
      rw [hgH] at hb10
      have k0 : w10.cell? ⟨wb, 0, none⟩ = some (.int .i64 h.applied) := Blk.val hb10 0 _ rfl
      have k1 : w10.cell? ⟨wb, 1, none⟩ = some (.int .i64 h.count) := Blk.val hb10 1 _ rfl
      have k2 : w10.cell? ⟨wb, 2, none⟩ = some (.int .i64 fin) := Blk.val hb10 2 _ rfl
      have k3 : w10.cell? ⟨wb, 3, none⟩ = some (.int .i64 rt) := Blk.val hb10 3 _ rfl
      have k4 : w10.cell? ⟨wb, 4, none⟩ = some (.int .i64 ((lv : Nat) : Int)) := Blk.val hb10 4 _ rfl
      have k5 : w10.cell? ⟨wb, 5, none⟩ = some (.int .i64 h.splits) := Blk.val hb10 5 _ rfl
      have k6 : w10.cell? ⟨wb, 6, none⟩ = some (.int .i64 h.areas) := Blk.val hb10 6 _ rfl
      have l10 := Blk.lt hb10
      have Hb10 := Lib.hid hb10
      have Hx10 := Lib.hid hx10
      have Hz10 := Lib.hid hz10
      have HgH := Lib.hid hgH
      clear hb10 hx10 hz10 hgH
      generalize hWL : (wrN d done).length = WL at *
      have HWL := Lib.hid hWL
      clear hWL
      go_region_with (go_at_call 44; refine (HSo.out _ (by first | exact Ext.refl _ | exact Ext.drew _ | exact Ext.drewN _ _)).mono ?_; rintro e w11 ⟨q11, c11, rfl, ho11, he11⟩; have hb11 := he11.blk _ _ ((Ext.drew w10).blk _ _ Hb10.out); have hz11 := he11.blk _ _ ((Ext.drew w10).blk _ _ Hz10.out); have j0 : w11.cell? ⟨wb, 0, none⟩ = some (.int .i64 h.applied) := Blk.val hb11 0 _ rfl; have j1 : w11.cell? ⟨wb, 1, none⟩ = some (.int .i64 h.count) := Blk.val hb11 1 _ rfl; have j2 : w11.cell? ⟨wb, 2, none⟩ = some (.int .i64 fin) := Blk.val hb11 2 _ rfl; have j3 : w11.cell? ⟨wb, 3, none⟩ = some (.int .i64 rt) := Blk.val hb11 3 _ rfl; have j4 : w11.cell? ⟨wb, 4, none⟩ = some (.int .i64 ((lv : Nat) : Int)) := Blk.val hb11 4 _ rfl; have j5 : w11.cell? ⟨wb, 5, none⟩ = some (.int .i64 h.splits) := Blk.val hb11 5 _ rfl; have j6 : w11.cell? ⟨wb, 6, none⟩ = some (.int .i64 h.areas) := Blk.val hb11 6 _ rfl; have l11 := Blk.lt hb11; have z0 : w11.cell? ⟨w.heap.size + 1 + 1, 0, none⟩ = some (.int .i64 0) := Blk.val hz11 0 _ rfl; have f0 := Blk.free hz11 0; have z1 : w11.cell? ⟨w.heap.size + 1 + 1, 1, none⟩ = some (.int .i64 0) := Blk.val hz11 1 _ rfl; have f1 := Blk.free hz11 1; have z2 : w11.cell? ⟨w.heap.size + 1 + 1, 2, none⟩ = some (.int .i64 0) := Blk.val hz11 2 _ rfl; have f2 := Blk.free hz11 2; have z3 : w11.cell? ⟨w.heap.size + 1 + 1, 3, none⟩ = some (.int .i64 0) := Blk.val hz11 3 _ rfl; have f3 := Blk.free hz11 3; have z4 : w11.cell? ⟨w.heap.size + 1 + 1, 4, none⟩ = some (.int .i64 0) := Blk.val hz11 4 _ rfl; have f4 := Blk.free hz11 4; have z5 : w11.cell? ⟨w.heap.size + 1 + 1, 5, none⟩ = some (.int .i64 0) := Blk.val hz11 5 _ rfl; have f5 := Blk.free hz11 5; have z6 : w11.cell? ⟨w.heap.size + 1 + 1, 6, none⟩ = some (.int .i64 0) := Blk.val hz11 6 _ rfl; have f6 := Blk.free hz11 6; have lz11 := Blk.lt hz11; have Ho11 := Lib.hid ho11; have Hz11 := Lib.hid hz11; have Hx11 := Lib.hid (Hx10.out.trans ((Ext.drew w10).trans he11)); clear hb11 hz11 ho11 he11)
      all_goals
        clear z0 z1 z2 z3 z4 z5 z6 f0 f1 f2 f3 f4 f5 f6 j0 j1 j2 j3 j4 j5 j6 k0 k1 k2 k3 k4 k5 k6
        go_wp2_with fail
        refine bodyPost_ret (results_row2 Tryz.results21 _ _ (w.heap.size + 1 + 1) 24 #[.int .i64 h.applied, .int .i64 h.count, .int .i64 fin, .int .i64 rt, .int .i64 ((lv : Nat) : Int), .int .i64 h.splits, .int .i64 h.areas] _ rfl ?_ hdDesc rfl hdSize) rfl ?_
        · first
            | exact Blk.setCell (Blk.setCell (Blk.setCell (Blk.setCell (Blk.setCell (Blk.setCell (Blk.setCell Hz11.out))))))
            | exact (Ext.drew _).blk _ _ (Blk.setCell (Blk.setCell (Blk.setCell (Blk.setCell (Blk.setCell (Blk.setCell (Blk.setCell Hz11.out)))))))
            | trace_state
        · rw [← HOU.out, HT9.out]
          refine ⟨?_, q11, c11, gH, HgH.out, ?_, ?_⟩
          · first
              | exact (((((((Chg.setCell.trans Chg.setCell).trans Chg.setCell).trans Chg.setCell).trans Chg.setCell).trans Chg.setCell).trans Chg.setCell)).ext Hx11.out (by omega)
              | exact ((((((((Chg.setCell.trans Chg.setCell).trans Chg.setCell).trans Chg.setCell).trans Chg.setCell).trans Chg.setCell).trans Chg.setCell)).ext Hx11.out (by omega)).trans (Ext.drew _)
          · show _ = Ending.returned (.tuple #[.agg #[.int .i64 gH.applied, .int .i64 gH.count, .int .i64 gH.fin, .int .i64 gH.root, .int .i64 gH.height, .int .i64 gH.splits, .int .i64 gH.areas], .slice q11 (wrN d done).length c11, .int .i64 0])
            rw [HWL.out, HgH.out]
            try rfl
          · show World.ownsRow _ _ _ _ (.slice q11 (wrN d done).length c11) (wrN d done).length (wrC (wrN d done))
            rw [HWL.out]
            first
              | exact own_chgT Ho11.out (by decide) Hz11.out ((((((Chg.setCell.trans Chg.setCell).trans Chg.setCell).trans Chg.setCell).trans Chg.setCell).trans Chg.setCell).trans Chg.setCell)
              | exact own_ext (own_chgT Ho11.out (by decide) Hz11.out ((((((Chg.setCell.trans Chg.setCell).trans Chg.setCell).trans Chg.setCell).trans Chg.setCell).trans Chg.setCell).trans Chg.setCell)) (Ext.drew _)
end Go.Proofs.YtolmoknjmdmpgaaGreat
/- What stands of a tree that was built. No program in sight. -/
namespace Dsd
open Go.Proofs.YtolmoknjmdmpgaaGreat (encNE encNS)
theorem entAt_zero (x : Ent) (E : List Ent) : entAt (x :: E) 0 = x := rfl
theorem entAt_succ (x : Ent) (E : List Ent) (k : Nat) : entAt (x :: E) (k + 1) = entAt E k := by simp [entAt, List.getD]
theorem go_sub {f : Int → Int → List Int × Int} {most : Int} : ∀ (E : List Ent) (P : List Part) (out : List Int), P.length = E.length → (∀ k, k < P.length → ∀ mo : Int, (((P.getD k ([], [])).1.length : Nat) : Int) ≤ mo → f (entAt E k).2 mo = ((P.getD k ([], [])).1.map (·.2), 0)) →
    (out.length : Int) + ((itsOf P).length : Int) ≤ most → belowGo f most out E = (out ++ (itsOf P).map (·.2), 0)
  | [], P, out, hl, _, _ => by
    obtain rfl : P = [] := List.eq_nil_of_length_eq_zero hl
    simp [belowGo, itsOf]
  | x :: E, [], out, hl, _, _ => by simp at hl
  | x :: E, y :: P, out, hl, hf, hm => by
    have e : itsOf (y :: P) = y.1 ++ itsOf P := itsOf_cons y P
    rw [e, List.length_append] at hm
    have h0 := hf 0 (by simp) (most - (out.length : Int)) (by simp only [List.getD_cons_zero]; omega)
    rw [entAt_zero, List.getD_cons_zero] at h0
    unfold belowGo
    rw [h0, if_neg (by simp), if_neg (by simp only [List.length_append, List.length_map]; omega)]
    rw [go_sub E P (out ++ y.1.map (·.2)) (by simpa using hl) (fun k hk mo hmo => by
      have := hf (k + 1) (by simpa using hk) mo (by rw [List.getD_cons_succ]; exact hmo)
      rwa [entAt_succ, List.getD_cons_succ] at this) (by simp only [List.length_append, List.length_map]; omega), e]
    simp
theorem below_sub {M : List (List UInt8)} {d : DS} {mn : Nat} : ∀ {l : Nat} {page : Int} {it : List Itm} {pgs : List Int}, Sub M d mn l page it pgs → ∀ most : Int, (it.length : Int) ≤ most → belowD M d l page most = (it.map (·.2), 0)
  | 0, page, it, pgs, ⟨⟨low, h⟩, _⟩, most, _ => by rw [h]; rfl
  | l + 1, page, it, pgs, hs, most, hm => by
    obtain ⟨h0, _, P, hK, rfl, _⟩ := sub_node hs
    unfold belowD
    rw [if_neg (by rw [h0]; simp)]
    rw [go_sub _ P [] hK.1 (fun k hk mo hmo => below_sub (hK.2 k hk).1 mo hmo) (by simpa using hm)]
    rfl
/-- The header of a built tree. -/
def bldH (B : Int × Int × Int × List (Int × Nd)) (h : Hd) : Hd := ⟨h.applied, h.count, B.2.2.1, B.1, B.2.1, h.splits, h.areas⟩
/-- The law's own bounds: in order, and short. -/
def LawB (d : DS) (bs : List (List UInt8)) : Prop := ∀ i, i < bs.length → ((bs.getD i []).length : Int) ≤ d.keyLength ∧ bl (if i = 0 then [] else bs.getD (i - 1) []) (bs.getD i []) = true
theorem LawB.ne {d : DS} {bs : List (List UInt8)} (hk : keyedB d = true) (h : LawB d bs) : ∀ s ∈ bs, s ≠ [] ∧ s.length ≤ 32 := by
  intro s hs
  obtain ⟨i, hi, rfl⟩ := List.mem_iff_getElem.1 hs
  obtain ⟨h1, h2⟩ := h i hi
  have e : bs.getD i [] = bs[i] := by simp [List.getD, hi]
  rw [e] at h1 h2
  obtain ⟨_, _, k3, _⟩ := keyed_nums hk
  refine ⟨fun e2 => ?_, by omega⟩
  rw [e2, bl_nil] at h2
  cases h2
theorem LawB.ord {d : DS} {bs : List (List UInt8)} (h : LawB d bs) : ∀ i, 0 < i → i < bs.length → bl (bs.getD (i - 1) []) (bs.getD i []) = true := by
  intro i h0 hi
  have := (h i hi).2
  rwa [if_neg (by omega)] at this
structure Built (d : DS) (bs : List (List UInt8)) (B : Int × Int × Int × List (Int × Nd)) (g : Hd) (M : List (List UInt8)) (pgs : List Int) : Prop where
  door : door22 g d = 0
  sub : Sub M d 1 g.height.toNat g.root (itemsB bs) pgs
  srt : Srt (itemsB bs)
  bE : basesE M g d = 0
  bL : basesL M g d = basesB bs.length
  ac : Go.Proofs.YtolmoknjmdmpgaaGreat.acycB M g d = true
  small : Small M
  mlen : M.length ≤ 100000
  fin : g.fin = 200 + (B.2.2.2.length : Int)
  few : B.2.2.2.length ≤ 100
theorem built_all {d : DS} (hk : keyedB d = true) {bs : List (List UInt8)} (hl : bs.length ≤ 100) (hB : LawB d bs) :
    ∃ B g pgs, B = bldGo d.interval 6 0 200 1 (pairsB (basesB bs.length) bs) ∧ g = bldH B ⟨0, 0, 200, 0, 0, 0, 0⟩ ∧ Built d bs B g (putsP [[]] (B.2.2.2.map fun y => (y.1, encNS d.interval y.2))) pgs := by
  have hz := (keyed_nums hk).1
  have hne := hB.ne hk
  have hsr := itemsB_srt (fun s hs => (hne s hs).1) hB.ord
  have hok := itemsB_ok hl hne
  have hpl := pairs_len bs
  obtain ⟨H, pgs, h1, h2, h3⟩ := bld_all hk (R := pairsB (basesB bs.length) bs) (by omega) hsr hok
  obtain ⟨r1, r2, r3, r4, r5, r6, r7⟩ := bld_pure (d := d) hz 6 0 200 1 [] (pairsB (basesB bs.length) bs) (by omega) (by omega) (by omega) (by decide) hok hsr (by omega) (by omega)
  unfold bldW at h3
  obtain ⟨B, hBe⟩ : ∃ B, B = bldGo d.interval 6 0 200 1 (pairsB (basesB bs.length) bs) := ⟨_, rfl⟩
  rw [← hBe] at h1 h3 r1 r2 r3 r4 r5 r6 r7
  obtain ⟨M, hM⟩ : ∃ M, M = putsP [[]] (B.2.2.2.map fun y => (y.1, encNS d.interval y.2)) := ⟨_, rfl⟩
  rw [← hM] at h3
  obtain ⟨g, hg⟩ : ∃ g, g = bldH B ⟨0, 0, 200, 0, 0, 0, 0⟩ := ⟨_, rfl⟩
  have g1 : g.root = B.1 := by rw [hg]; rfl
  have g2 : g.height = B.2.1 := by rw [hg]; rfl
  have g3 : g.fin = B.2.2.1 := by rw [hg]; rfl
  have hpg : 1 ≤ B.1 ∧ B.1 ≤ 16777216 := by
    unfold pageB at r7
    simp only [Bool.and_eq_true, decide_eq_true_eq] at r7
    omega
  have hd : door22 g d = 0 := by
    unfold door22
    rw [if_pos]
    simp only [Bool.and_eq_true, decide_eq_true_eq]
    refine ⟨⟨⟨⟨⟨⟨hk, ?_⟩, ?_⟩, ?_⟩, ?_⟩, ?_⟩, ?_⟩ <;> omega
  have hsub : Sub M d 1 g.height.toNat g.root (itemsB bs) pgs := by
    rw [g1, g2, h1]
    exact h3
  have hil := itemsB_len bs
  have hb := below_sub hsub 4096 (by omega)
  have e1 : basesE M g d = 0 := by unfold basesE; rw [if_neg (by rw [hd]; simp), hb]
  have e2 : basesL M g d = basesB bs.length := by unfold basesL; rw [if_neg (by rw [hd]; simp), hb, itemsB_snd]
  have hpgs : ∀ x ∈ (B.2.2.2.map fun y => ((y.1, encNS d.interval y.2) : Wr)), 201 ≤ x.1 ∧ x.1 ≤ 300 ∧ x.2.length ≤ 512 := by
    intro x hx
    obtain ⟨y, hy, rfl⟩ := List.mem_map.1 hx
    have hm : y.1 ∈ B.2.2.2.map (·.1) := List.mem_map_of_mem hy
    rw [r1] at hm
    obtain ⟨k, hk2, e⟩ := List.mem_map.1 hm
    have := List.mem_range.1 hk2
    have hel := enc_len (r2 y hy).1
    obtain ⟨_, _, _, hsz⟩ := keyed_nums hk
    simp only
    omega
  have hml : (M.length : Int) ≤ 301 := by
    rw [hM]
    exact puts_lenK _ _ (fun x hx => by have := hpgs x hx; omega) (by simp)
  refine ⟨B, g, pgs, hBe, hg, ?_⟩
  rw [← hM]
  refine ⟨hd, hsub, hsr, e1, e2, ?_, ⟨by omega, fun s hs => ?_⟩, by omega, by rw [g3, r3], by omega⟩
  · unfold Go.Proofs.YtolmoknjmdmpgaaGreat.acycB
    rw [e1, e2, Bool.and_eq_true, decide_eq_true_eq]
    exact ⟨by decide, by rw [basesB_len]; omega⟩
  · rw [hM] at hs
    have := puts_mem2 (fun s => s.length ≤ 512) (by simp) _ (fun x hx => (hpgs x hx).2.2) [[]] (by simp) s hs
    omega
end Dsd
/- The walk of the law IndexBuilt. -/
namespace Dsd
/-- The law's list behind so many bounds. -/
def itK (bs : List (List UInt8)) (k : Nat) : List Itm := (List.range (k + 1)).map fun i : Nat => (if i = 0 then [] else bs.getD (i - 1) [], 1 + (i : Int))
theorem itK_len (bs : List (List UInt8)) (k : Nat) : (itK bs k).length = k + 1 := by simp [itK]
theorem itK_succ (bs : List (List UInt8)) (k : Nat) : itK bs (k + 1) = itK bs k ++ [(bs.getD k [], 2 + (k : Int))] := by
  unfold itK
  rw [List.range_succ (n := k + 1), List.map_append]
  simp
  omega
theorem itK_at (bs : List (List UInt8)) {k i : Nat} (h : i ≤ k) : entAt (itK bs k) i = (if i = 0 then [] else bs.getD (i - 1) [], 1 + (i : Int)) := by
  unfold itK entAt
  simp [List.getD, show i < k + 1 by omega]
theorem itK_all (bs : List (List UInt8)) : itK bs bs.length = itemsB bs := by
  refine List.ext_getElem (by rw [itK_len, itemsB_len]) (fun i h1 h2 => ?_)
  rw [itK_len] at h1
  have e1 : (itK bs bs.length)[i] = entAt (itK bs bs.length) i := by simp [entAt, List.getD, itK_len, h1]
  rw [e1, itK_at bs (by omega)]
  cases i with
  | zero => simp [itemsB]
  | succ i =>
    have := pairs_at bs (show i < bs.length by omega)
    rw [List.getElem?_eq_getElem (by rw [pairs_len]; omega)] at this
    simp only [itemsB, List.getElem_cons_succ]
    rw [Option.some.inj this, if_neg (by omega)]
    simp
    omega
theorem basesB_succ (k : Nat) : basesB (k + 1) = basesB k ++ [2 + (k : Int)] := by
  unfold basesB
  rw [List.range_succ (n := k + 1), List.map_append]
  simp
  omega
def LawK (d : DS) (bs : List (List UInt8)) (k : Nat) : Prop := ∀ i, i < k → ((bs.getD i []).length : Int) ≤ d.keyLength ∧ bl (if i = 0 then [] else bs.getD (i - 1) []) (bs.getD i []) = true
theorem ble_no {a b : List UInt8} (h : bl a b = true) : (Go.Op.bytesLess b a || b == a) = false := by rw [bl_ge, h]; rfl
theorem ble_yes {a b : List UInt8} (h : bl a b = false) : (Go.Op.bytesLess b a || b == a) = true := by rw [bl_ge, h]; rfl
end Dsd
namespace Go.Proofs.YtolmoknjmdmpgaaGreat
open Go.RowKit Dsd
theorem infoItemH : (Tryz.prog.info? 50).map (fun i => (i.zero, i.size, i.bytes)) = some (some (.agg #[.string ByteArray.empty, .int .i64 0]), 2, 24) := by kernel_rfl
theorem short_maxH {bs : List (List UInt8)} {m l : Nat} (h : shortB bs m l = true) : bs.length ≤ m ∧ ∀ s ∈ bs, s.length ≤ l := by
  unfold shortB at h
  simp only [Bool.and_eq_true, decide_eq_true_eq, List.all_eq_true] at h
  exact ⟨by omega, fun s hs => by have := h.2 s hs; omega⟩
/-- The law's own rows. -/
structure BtS (bs : List (List UInt8)) (d : DS) (w wr : World) (k g7 c7 g8 c8 : Nat) : Prop where
  ext : Ext w wr
  ds : DsAt wr w.heap.size d
  lst : wr.ownsRow w.heap.size 50 2 (.slice (some ⟨g7, 0, none⟩) (k + 1) c7) (k + 1) (entCells (itK bs k))
  bas : wr.ownsRow w.heap.size 3 1 (.slice (some ⟨g8, 0, none⟩) (k + 1) c8) (k + 1) (intC (basesB k))
theorem BtS.extW {bs : List (List UInt8)} {d : DS} {w wr w' : World} {k g7 c7 g8 c8 : Nat} (s : BtS bs d w wr k g7 c7 g8 c8) (e : Ext wr w') : BtS bs d w w' k g7 c7 g8 c8 := ⟨s.ext.trans e, s.ds.ext e, own_ext s.lst e, own_ext s.bas e⟩
set_option maxRecDepth 100000 in
set_option maxHeartbeats 4000000 in
theorem IndexBuilt_any (d : DS) (p : Option Addr) (cap n : Nat) (bs : List (List UInt8)) (key : List UInt8) (w : World) (hs : Strs w p bs) (hn : bs.length = n) (hcap : n ≤ cap) (hcm : cap ≤ maxLen) :
    Calls Tryz.prog 6 #[.agg #[.int .i64 d.id, .int .i64 d.org, .int .i64 d.format, .int .i64 d.length, .int .i64 d.block, .int .i64 d.keyAt, .int .i64 d.keyLength, .int .i64 d.interval, .int .i64 d.area, .int .i64 d.freeInterval, .int .i64 d.freeArea, .int .i64 d.base, .int .i64 d.altAt, .int .i64 d.altLength, .bool d.unique, .int .i64 d.cls, .string ⟨d.volume.toArray⟩, .string ⟨d.owner.toArray⟩, .int .i64 d.created, .int .i64 d.expires, .bool d.archived], .slice p n cap, .string ⟨key.toArray⟩] w fun e w' => e = .returned (.bool true) ∧ Ext w w' := by
  have hL : n ≤ maxLen := Nat.le_trans hcap hcm
  clear hcap hcm
  have hx0 := Ext.alloc w (.cells #[.int .i64 d.id, .int .i64 d.org, .int .i64 d.format, .int .i64 d.length, .int .i64 d.block, .int .i64 d.keyAt, .int .i64 d.keyLength, .int .i64 d.interval, .int .i64 d.area, .int .i64 d.freeInterval, .int .i64 d.freeArea, .int .i64 d.base, .int .i64 d.altAt, .int .i64 d.altLength, .bool d.unique, .int .i64 d.cls, .string ⟨d.volume.toArray⟩, .string ⟨d.owner.toArray⟩, .int .i64 d.created, .int .i64 d.expires, .bool d.archived] 26)
  have hb0 := Blk.new w (.cells #[.int .i64 d.id, .int .i64 d.org, .int .i64 d.format, .int .i64 d.length, .int .i64 d.block, .int .i64 d.keyAt, .int .i64 d.keyLength, .int .i64 d.interval, .int .i64 d.area, .int .i64 d.freeInterval, .int .i64 d.freeArea, .int .i64 d.base, .int .i64 d.altAt, .int .i64 d.altLength, .bool d.unique, .int .i64 d.cls, .string ⟨d.volume.toArray⟩, .string ⟨d.owner.toArray⟩, .int .i64 d.created, .int .i64 d.expires, .bool d.archived] 26)
  have HSh := Lib.hid (fun W (hh : Strs W p bs) => Short_any p cap n bs 100 40 W hh hn (by omega))
  have HKe := Lib.hid (fun W => IsKeyedR_any d W)
  have Hs := Lib.hid hs
  have HAw := Lib.hid (fun W => awake22_any W)
  cases hk : keyedB d
  · rw [hk] at HKe
    clear hs hn hL hk
    go_enter Tryz.func6, Tryz.ntmps6
    go_upto_region 1 with (fail)
    refine wp_name (fun w0 => Ext w w0 ∧ DsAt w0 w.heap.size d) ⟨hx0, hb0⟩ ?_
    clear hx0 hb0
    rintro w0 ⟨he0, hd0⟩
    go_upto_region 3 with (go_at_call 7; refine (HAw.out _).mono ?_; rintro e w1 ⟨rfl, he1⟩)
    have hx1 := he0.trans he1
    have hd1 := hd0.ext he1
    clear he0 he1 hd0
    go_wp2_with (first
      | ((with_reducible (show wpList _ _ _ (⟨some 18, _, _, _, _, _⟩ :: _) _ _)); refine wpList_ds (o := ⟨some 18, _, _, _, _, _⟩) rfl (.tmp 3) rfl _ rfl d hd1 ?_)
      | (go_at_call 17; refine (HKe.out _).mono ?_; rintro e w2 ⟨rfl, he2⟩))
    go_ret
    exact ⟨rfl, hx1.trans he2⟩
  · rw [hk] at HKe
    cases hsh : shortB bs 100 40
    · rw [hsh] at HSh
      clear hs hn hL hk hsh
      go_enter Tryz.func6, Tryz.ntmps6
      go_upto_region 1 with (fail)
      refine wp_name (fun w0 => Ext w w0 ∧ DsAt w0 w.heap.size d) ⟨hx0, hb0⟩ ?_
      clear hx0 hb0
      rintro w0 ⟨he0, hd0⟩
      go_upto_region 3 with (go_at_call 7; refine (HAw.out _).mono ?_; rintro e w1 ⟨rfl, he1⟩)
      have hx1 := he0.trans he1
      have hd1 := hd0.ext he1
      clear he0 he1 hd0
      go_wp2_with (first
        | ((with_reducible (show wpList _ _ _ (⟨some 18, _, _, _, _, _⟩ :: _) _ _)); refine wpList_ds (o := ⟨some 18, _, _, _, _, _⟩) rfl (.tmp 3) rfl _ rfl d hd1 ?_)
        | (go_at_call 17; refine (HKe.out _).mono ?_; rintro e w2 ⟨rfl, he2⟩)
        | (go_at_call 18; refine (HSh.out _ (Hs.out.ext (hx1.trans he2))).mono ?_; rintro e w3 ⟨rfl, rfl⟩))
      go_ret
      exact ⟨rfl, hx1.trans he2⟩
    · have hmx := short_maxH hsh
      rw [hsh] at HSh
      have hn100 : n ≤ 100 := by omega
      by_cases hkl : key.length ≤ 100
      · have hkI : decide ((100 : Int) < key.length) = false := decide_eq_false (by omega)
        have hkN : ¬ 100 < key.length := by omega
        have Hk := Lib.hid hk
        have Hn := Lib.hid hn
        clear hs hL hk hsh hmx hn
        go_enter Tryz.func6, Tryz.ntmps6
        go_upto_region 1 with (fail)
        refine wp_name (fun w0 => Ext w w0 ∧ DsAt w0 w.heap.size d) ⟨hx0, hb0⟩ ?_
        clear hx0 hb0
        rintro w0 ⟨he0, hd0⟩
        go_upto_region 3 with (go_at_call 7; refine (HAw.out _).mono ?_; rintro e w1 ⟨rfl, he1⟩)
        have hx1 := he0.trans he1
        have hd1 := hd0.ext he1
        clear he0 he1 hd0
        go_upto_region 5 with (first
          | ((with_reducible (show wpList _ _ _ (⟨some 18, _, _, _, _, _⟩ :: _) _ _)); refine wpList_ds (o := ⟨some 18, _, _, _, _, _⟩) rfl (.tmp 3) rfl _ rfl d hd1 ?_)
          | (go_at_call 17; refine (HKe.out _).mono ?_; rintro e w2 ⟨rfl, he2⟩)
          | (go_at_call 18; refine (HSh.out _ (Hs.out.ext (hx1.trans he2))).mono ?_; rintro e w3 ⟨rfl, rfl⟩))
        have hx2 := hx1.trans he2
        have hd2 := hd1.ext he2
        clear hx1 he2 hd1
        go_upto_region 7 with (first
          | ((with_reducible (show wpList _ _ _ (⟨some 31, _, _, _, _, _⟩ :: _) _ _)); refine wpList_bld (o := ⟨some 31, _, _, _, _, _⟩) rfl 50 _ rfl [(0, .string ⟨#[]⟩), (1, .int .i64 1)] rfl _ (itBuiltH ⟨#[]⟩ 1) ?_))
        have hxi := Ext.alloc w2 (.cells #[.string ⟨#[]⟩, .int .i64 1] 50)
        have hxb := Ext.alloc (w2.alloc (.cells #[.string ⟨#[]⟩, .int .i64 1] 50)) (.cells #[.int .i64 1] 3)
        have hbi := hxb.blk _ _ (Blk.new w2 (.cells #[.string ⟨#[]⟩, .int .i64 1] 50))
        have hbb := Blk.new (w2.alloc (.cells #[.string ⟨#[]⟩, .int .i64 1] 50)) (.cells #[.int .i64 1] 3)
        rw [World.size_alloc] at hbb
        have hz2 := hx2.size
        have hst0 := BtS.mk (bs := bs) (k := 0) (g7 := w2.heap.size) (c7 := 1) (g8 := w2.heap.size + 1) (c8 := 1) (hx2.trans (hxi.trans hxb)) (hd2.ext (hxi.trans hxb)) (own_of_blk (xs := [.string ⟨#[]⟩, .int .i64 1]) hbi hz2 rfl (by decide)) (own_of_blk (xs := [.int .i64 1]) hbb (by omega) rfl (by decide))
        have Hst0 := Lib.hid hst0
        have HlI := Lib.hid hz2
        clear hxi hxb hbi hbb hz2 hst0 hx2 hd2
        go_loopw [36, 7, 8] (fun i v7 v8 wr => ∃ (k g7 c7 g8 c8 : Nat), k ≤ n ∧ i = .int .i64 k ∧ v7 = .slice (some ⟨g7, 0, none⟩) (k + 1) c7 ∧ v8 = .slice (some ⟨g8, 0, none⟩) (k + 1) c8 ∧ LawK d bs k ∧ BtS bs d w wr k g7 c7 g8 c8) (fun i _ _ _ => n - (intOf i).toNat)
        case atStart => exact ⟨0, w2.heap.size, 1, w2.heap.size + 1, 1, Nat.zero_le _, rfl, rfl, rfl, fun i hi => absurd hi (Nat.not_lt_zero _), Hst0.out⟩
        case round =>
          obtain ⟨k, g7, c7, g8, c8, hkn, rfl, rfl, rfl, hlk, hst⟩ := hrel
          by_cases hlt : k < n
          · have hltI : (k : Int) < n := by omega
            obtain ⟨gs, os, hps, hgs, hsc⟩ := (Hs.out.ext hst.ext).at k (by have := Hn.out; omega)
            subst hps
            have cs := hsc k (by have := Hn.out; omega)
            obtain ⟨gi, oi, hqi, hgi, hic⟩ := (own_cellsND hst.lst).at k (by rw [itK_len]; omega)
            simp only [Option.some.injEq, Addr.mk.injEq, and_true] at hqi
            obtain ⟨rfl, rfl⟩ := hqi
            obtain ⟨ic0, _⟩ := hic k (by rw [itK_len]; omega)
            rw [itK_at bs (Nat.le_refl k), Nat.zero_add] at ic0
            simp only at ic0
            have k6 : wr.cell? ⟨w.heap.size, 6, none⟩ = some (.int .i64 d.keyLength) := Blk.val hst.ds 6 _ rfl
            have l6 := Blk.lt hst.ds
            have HB := Lib.hid (fun (h1 : ((bs.getD k []).length : Int) ≤ d.keyLength) (h2 : bl (if k = 0 then [] else bs.getD (k - 1) []) (bs.getD k []) = true) (i : Nat) (hi : i < k + 1) => by
              rcases Nat.lt_or_ge i k with h3 | h3
              · exact hlk i h3
              · obtain rfl : i = k := by omega
                exact ⟨h1, h2⟩)
            have Hst := Lib.hid hst
            have HSu := Lib.hid (itK_succ bs k)
            obtain ⟨n1, hn1⟩ : ∃ n1, n1 = k + 1 := ⟨_, rfl⟩
            have hn1m : n1 ≤ 1000 := by rw [hn1]; exact Nat.le_trans (Nat.succ_le_of_lt hlt) (Nat.le_trans hn100 (by decide))
            have Hn1 := Lib.hid hn1
            have hkn1 : (k : Int) < ((n1 : Nat) : Int) := by omega
            have hkn1N : k < n1 := by omega
            rw [← hn1]
            clear hsc hic hlk hst hn1
            generalize (if k = 0 then [] else bs.getD (k - 1) []) = low at *
            generalize bs.getD k [] = b at *
            by_cases hkl2 : (b.length : Int) ≤ d.keyLength
            · have hkd : decide (d.keyLength < (b.length : Int)) = false := decide_eq_false (by omega)
              cases hbl : bl low b
              · have hle := ble_yes hbl
                go_wp2_with fail
                go_ret
                exact ⟨rfl, Hst.out.ext⟩
              · have hle := ble_no hbl
                have hwk : IntKind.i64.wrap (2 + (k : Int)) = 2 + (k : Int) := IntWalk.i64_in _ (by omega)
                have hwk2 : wrap64 (2 + (k : Int)) = 2 + (k : Int) := IntWalk.wrap64_in _ (by omega)
                have hss := Hst.out.ext.size
                go_upto_region 12 with (first
                  | ((with_reducible (show wpList _ _ _ (⟨some 59, _, _, _, _, _⟩ :: _) _ _)); refine wpList_bld (o := ⟨some 59, _, _, _, _, _⟩) rfl 50 _ rfl [(0, .string ⟨b.toArray⟩), (1, .int .i64 (2 + (k : Int)))] (by rfl) _ (itBuiltH _ _) ?_)
                  | ((with_reducible (show wpList _ _ _ (⟨some 61, _, _, _, _, _⟩ :: _) _ _)); refine wpList_app (o := ⟨some 61, _, _, _, _, _⟩) rfl (.tmp 55) (.tmp 60) 46 50 rfl w.heap.size (.agg #[.string ByteArray.empty, .int .i64 0]) 2 24 Tryz.underlying46 infoItemH rfl (by decide) _ n1 _ rfl (by rw [Hn1.out]; exact own_ext Hst.out.lst (Ext.alloc wr _)) _ [.string ⟨b.toArray⟩, .int .i64 (2 + (k : Int))] rfl (Blk.new wr _) rfl (by intro u hu; simp at hu; rcases hu with rfl | rfl <;> rfl) (by omega) (by decide) (by simp; omega) ?_; intro v61 w61 ho61 hg61; have r61 := rty_app (T := 50) hg61 (by rw [Hn1.out]; exact own_ext Hst.out.lst (Ext.alloc wr _)) (by simp; omega); obtain ⟨q61, c61, rfl⟩ := own_slice ho61; have Ho61 := Lib.hid ho61; have Hr61 := Lib.hid r61; clear ho61 hg61 r61)
                  | ((with_reducible (show wpList _ _ _ (⟨some 66, _, _, _, _, _⟩ :: _) _ _)); refine wpList_app (o := ⟨some 66, _, _, _, _, _⟩) rfl (.tmp 62) (.tmp 65) 30 3 rfl w.heap.size (.int .i64 0) 1 8 Tryz.underlying30 infoInt rfl (by decide) _ n1 _ rfl (by rw [Hn1.out]; exact own_ext (own_rty (own_ext Hst.out.bas (Ext.alloc wr _)) (by decide) Hr61.out) (Ext.alloc w61 _)) _ [.int .i64 (2 + (k : Int))] rfl (Blk.new w61 _) rfl (by intro u hu; simp at hu; subst hu; rfl) (by omega) (by decide) (by have := Hr61.out.1.size; simp at this ⊢; omega) ?_; intro v66 w66 ho66 hg66; have r66 := rty_app (T := 3) hg66 (by rw [Hn1.out]; exact own_ext (own_rty (own_ext Hst.out.bas (Ext.alloc wr _)) (by decide) Hr61.out) (Ext.alloc w61 _)) (by have := Hr61.out.1.size; simp at this ⊢; omega); obtain ⟨q66, c66, rfl⟩ := own_slice ho66; have Ho66 := Lib.hid ho66; have Hr66 := Lib.hid r66; clear ho66 hg66 r66))
                obtain ⟨g61, cur61, hq61, _⟩ := own_parts Ho61.out (by omega)
                subst hq61
                obtain ⟨g66, cur66, hq66, _⟩ := own_parts Ho66.out (by omega)
                subst hq66
                have ho61b := own_rty (own_ext Ho61.out (Ext.alloc w61 (.cells #[.int .i64 (2 + (k : Int))] 3))) (by decide) Hr66.out
                have Ho61b := Lib.hid ho61b
                have hxB := Ext.trans' (Hst.out.ext.trans (Ext.alloc wr (.cells #[.string ⟨b.toArray⟩, .int .i64 (2 + (k : Int))] 50))) Hr61.out.1
                have hxC := Ext.trans' (hxB.trans (Ext.alloc w61 (.cells #[.int .i64 (2 + (k : Int))] 3))) Hr66.out.1
                have HxC := Lib.hid hxC
                have hdC := Hr66.out.2 _ _ _ (by decide) ((Ext.alloc w61 (.cells #[.int .i64 (2 + (k : Int))] 3)).blk _ _ (Hr61.out.2 _ _ _ (by decide) ((Ext.alloc wr (.cells #[.string ⟨b.toArray⟩, .int .i64 (2 + (k : Int))] 50)).blk _ _ Hst.out.ds)))
                have HdC := Lib.hid hdC
                have HB2 := Lib.hid (HB.out hkl2 hbl)
                clear ho61b hxB hxC hdC hwk hwk2 hle hbl hkd hss hkn1 hkn1N hn1m
                go_wp2_with fail
                refine ⟨⟨k + 1, g61, c61, g66, c66, by omega, by go_num, by rw [Hn1.out], by rw [Hn1.out], fun i hi => HB2.out i hi, ⟨HxC.out, HdC.out, ?_, ?_⟩⟩, by simp [intOf]; omega⟩
                · have h1 := Ho61b.out
                  rw [Hn1.out] at h1
                  rw [HSu.out, entCells_snoc]
                  exact h1
                · have h1 := Ho66.out
                  rw [Hn1.out] at h1
                  have e : intC (basesB (k + 1)) = intC (basesB k) ++ [.int .i64 (2 + (k : Int))] := by rw [basesB_succ]; simp [intC]
                  rw [e]
                  exact h1
            · have hkd : decide (d.keyLength < (b.length : Int)) = true := decide_eq_true (by omega)
              go_wp2_with fail
              go_ret
              exact ⟨rfl, Hst.out.ext⟩
          · have hke : k = n := by omega
            subst hke
            have hge : decide ((k : Int) < (k : Int)) = false := decide_eq_false (by omega)
            have hLB : LawB d bs := fun i hi => hlk i (by have := Hn.out; omega)
            obtain ⟨B, g, pgs, hB, hg, HBt⟩ := built_all Hk.out (by have := Hn.out; omega) hLB
            rw [Hn.out] at hB
            have hb0 : (basesB k).getD 0 0 = 1 := by rw [basesB_at k (Nat.zero_le _)]; rfl
            have HBd : Hid (∀ W, Ext wr W → Calls Tryz.prog 21 #[.agg #[.int .i64 d.id, .int .i64 d.org, .int .i64 d.format, .int .i64 d.length, .int .i64 d.block, .int .i64 d.keyAt, .int .i64 d.keyLength, .int .i64 d.interval, .int .i64 d.area, .int .i64 d.freeInterval, .int .i64 d.freeArea, .int .i64 d.base, .int .i64 d.altAt, .int .i64 d.altLength, .bool d.unique, .int .i64 d.cls, .string ⟨d.volume.toArray⟩, .string ⟨d.owner.toArray⟩, .int .i64 d.created, .int .i64 d.expires, .bool d.archived], .agg #[.int .i64 (Hd.mk 0 0 200 0 0 0 0).applied, .int .i64 (Hd.mk 0 0 200 0 0 0 0).count, .int .i64 (Hd.mk 0 0 200 0 0 0 0).fin, .int .i64 (Hd.mk 0 0 200 0 0 0 0).root, .int .i64 (Hd.mk 0 0 200 0 0 0 0).height, .int .i64 (Hd.mk 0 0 200 0 0 0 0).splits, .int .i64 (Hd.mk 0 0 200 0 0 0 0).areas], .slice (some ⟨g8, 0, none⟩) (k + 1) c8, .slice p k cap] W fun e w' => Ext W w' ∧ ∃ q c, e = .returned (.tuple #[.agg #[.int .i64 g.applied, .int .i64 g.count, .int .i64 g.fin, .int .i64 g.root, .int .i64 g.height, .int .i64 g.splits, .int .i64 g.areas], .slice q (wrN d B.2.2.2).length c, .int .i64 0]) ∧ w'.ownsRow W.heap.size 65 2 (.slice q (wrN d B.2.2.2).length c) (wrN d B.2.2.2).length (wrC (wrN d B.2.2.2))) := Lib.hid (fun W e => by
              have := Build_any ⟨0, 0, 200, 0, 0, 0, 0⟩ d (some ⟨g8, 0, none⟩) c8 (k + 1) (basesB k) p cap k bs W (path_ints (own_ext hst.bas e)) (basesB_len k) (Hs.out.ext (hst.ext.trans e)) Hn.out rfl hn100 Hk.out ⟨by decide, by decide⟩ (fun x hx => by
                unfold basesB at hx
                obtain ⟨i, hi, rfl⟩ := List.mem_map.1 hx
                have := List.mem_range.1 hi
                omega) (LawB.ne Hk.out hLB) hLB.ord
              rw [hb0] at this
              simp only at this
              rw [← hB] at this
              refine this.mono ?_
              rintro e w' ⟨h1, q, c, g', hg', he, ho⟩
              obtain rfl : g' = g := by rw [hg', hg]; rfl
              exact ⟨h1, q, c, he, ho⟩)
            have HWn : Hid ((wrN d B.2.2.2).length ≤ 100 ∧ g.fin = 200 + ((wrN d B.2.2.2).length : Int)) := Lib.hid (by rw [wrN_len]; exact ⟨HBt.few, HBt.fin⟩)
            obtain ⟨M, hM⟩ : ∃ M, M = putsP [[]] (wrN d B.2.2.2) := ⟨_, rfl⟩
            have HBt1 : Built d bs B g M pgs := by rw [hM]; exact HBt
            have HBt2 := Lib.hid HBt1
            have HM := Lib.hid hM
            have Hst := Lib.hid hst
            have hd9 := hst.ds
            clear hLB hB hg hb0 HBt HBt1 hM hst hlk hlt hge
            obtain ⟨Ws, hWs⟩ : ∃ Ws, Ws = wrN d B.2.2.2 := ⟨_, rfl⟩
            rw [← hWs] at HBd HWn
            have HWs := Lib.hid hWs
            clear hWs
            obtain ⟨WL, hWL⟩ : ∃ WL, WL = Ws.length := ⟨_, rfl⟩
            rw [← hWL] at HBd HWn
            have HWL := Lib.hid hWL
            clear hWL
            have hkk : ¬ k < k := Nat.lt_irrefl k
            go_upto_region 14 with (first
              | ((with_reducible (show wpList _ _ _ (⟨some 69, _, _, _, _, _⟩ :: _) _ _)); refine wpList_ds (o := ⟨some 69, _, _, _, _, _⟩) rfl (.tmp 3) rfl _ rfl d hd9 ?_)
              | ((with_reducible (show wpList _ _ _ (⟨some 70, _, _, _, _, _⟩ :: _) _ _)); refine wpList_bld (o := ⟨some 70, _, _, _, _, _⟩) rfl 24 _ rfl [(2, .int .i64 200)] rfl _ hdBuilt200 ?_)
              | (go_at_call 21; refine (HBd.out _ (Ext.refl _)).mono ?_; rintro e w4 ⟨he4, q4, c4, rfl, ho4⟩))
            have hxa := Ext.alloc w4 (.cells #[.int .i64 g.applied, .int .i64 g.count, .int .i64 g.fin, .int .i64 g.root, .int .i64 g.height, .int .i64 g.splits, .int .i64 g.areas] 24)
            have hba := Blk.new w4 (.cells #[.int .i64 g.applied, .int .i64 g.count, .int .i64 g.fin, .int .i64 g.root, .int .i64 g.height, .int .i64 g.splits, .int .i64 g.areas] 24)
            refine wp_name (fun w5 => BtS bs d w w5 k g7 c7 g8 c8 ∧ HdAt w5 w4.heap.size g ∧ w5.ownsRow wr.heap.size 65 2 (.slice q4 WL c4) WL (wrC Ws)) ⟨Hst.out.extW (he4.trans hxa), hba, own_ext ho4 hxa⟩ ?_
            clear hxa hba he4 ho4 hd9 HBd
            generalize w4.heap.size = hb at *
            rintro w5 ⟨hst5, hh5, ho5⟩
            obtain ⟨ML, hML⟩ : ∃ ML, ML = M.length := ⟨_, rfl⟩
            have HML := Lib.hid hML
            have HPu : Hid (∀ W mb, Ext w5 W → Strs W (some ⟨mb, 0, none⟩) [[]] → Calls Tryz.prog 22 #[.slice (some ⟨mb, 0, none⟩) 1 1, .slice q4 WL c4] W fun e w' => Ext W w' ∧ ∃ q c, e = .returned (.slice q ML c) ∧ Strs w' q M) := Lib.hid (fun W mb e h9 => by
              have := Put_any ⟨mb, 0, none⟩ q4 1 1 WL c4 [[]] Ws W h9 rfl (own_wrts (own_ext ho5 e)) HWL.out.symm (by decide) HWn.out.1
              rw [HWs.out, ← HM.out, ← hML] at this
              refine this.mono ?_
              rintro e w' ⟨h1, v, rfl, h2⟩
              obtain ⟨q, c, rfl, h3, _⟩ := own_strs_p h2
              exact ⟨h1, q, c, rfl, h3⟩)
            have Hst5 := Lib.hid hst5
            have Hh5 := Lib.hid hh5
            clear hst5 hh5 ho5 hML
            go_upto_region 17 with (go_at_call 22; refine (HPu.out _ _ (Ext.alloc _ _) (by exact cells_blk (Blk.new w5 _))).mono ?_; rintro e w6 ⟨he6, q6, c6, rfl, hs6⟩)
            have hst6 := Hst5.out.extW ((Ext.alloc w5 (.cells #[.string ⟨#[]⟩] 9)).trans he6)
            have hh6 := Hh5.out.ext ((Ext.alloc w5 (.cells #[.string ⟨#[]⟩] 9)).trans he6)
            clear he6 HPu
            have HBs : Hid (Calls Tryz.prog 15 #[.iface 29 (.slice q6 ML c6), .agg #[.int .i64 g.applied, .int .i64 g.count, .int .i64 g.fin, .int .i64 g.root, .int .i64 g.height, .int .i64 g.splits, .int .i64 g.areas], .agg #[.int .i64 d.id, .int .i64 d.org, .int .i64 d.format, .int .i64 d.length, .int .i64 d.block, .int .i64 d.keyAt, .int .i64 d.keyLength, .int .i64 d.interval, .int .i64 d.area, .int .i64 d.freeInterval, .int .i64 d.freeArea, .int .i64 d.base, .int .i64 d.altAt, .int .i64 d.altLength, .bool d.unique, .int .i64 d.cls, .string ⟨d.volume.toArray⟩, .string ⟨d.owner.toArray⟩, .int .i64 d.created, .int .i64 d.expires, .bool d.archived]] w6 fun e w' => Ext w6 w' ∧ ∃ q c, e = .returned (.tuple #[.slice q (k + 1) c, .int .i64 0]) ∧ Ints w' q (basesB k)) := Lib.hid (by
              have := Bases22_any q6 c6 ML M g d w6 hs6 HML.out.symm HBt2.out.small HBt2.out.ac
              rw [HBt2.out.bE, if_pos rfl, HBt2.out.bL, Hn.out] at this
              refine this.mono ?_
              rintro e' w' ⟨a1, q, c, a2, a3⟩
              rw [basesB_len] at a2 a3
              exact ⟨a1, q, c, a2, path_ints a3⟩)
            have hd6 := hst6.ds
            have Hst6 := Lib.hid hst6
            have Hh6 := Lib.hid hh6
            have Hs6 := Lib.hid hs6
            clear hst6 hs6
            go_upto_region 18 with (first
              | ((with_reducible (show wpList _ _ _ (⟨some 85, _, _, _, _, _⟩ :: _) _ _)); refine wpList_hd (o := ⟨some 85, _, _, _, _, _⟩) rfl (.tmp 11) rfl _ rfl g hh6 ?_)
              | ((with_reducible (show wpList _ _ _ (⟨some 86, _, _, _, _, _⟩ :: _) _ _)); refine wpList_ds (o := ⟨some 86, _, _, _, _, _⟩) rfl (.tmp 3) rfl _ rfl d hd6 ?_)
              | (go_at_call 15; refine HBs.out.mono ?_; rintro e w7 ⟨he7, q7, c7', rfl, hi7⟩))
            have hh7 := hh6.ext he7
            have hd7 := hd6.ext he7
            obtain ⟨n1, hn1⟩ : ∃ n1, n1 = k + 1 := ⟨_, rfl⟩
            have Hn1 := Lib.hid hn1
            have HI7 : Hid (Calls Tryz.prog 13 #[.slice q7 n1 c7', .slice (some ⟨g8, 0, none⟩) n1 c8] w7 fun e w' => e = .returned (.bool true) ∧ Ext w7 w') := Lib.hid (ints_same q7 (some ⟨g8, 0, none⟩) c7' n1 c8 n1 (basesB k) w7 hi7 (path_ints (own_ext Hst6.out.bas he7)) (by rw [basesB_len, hn1]) (by rw [basesB_len, hn1]) (by rw [basesB_len]; omega))
            have HLd : Hid (∀ W, Ext w7 W → Calls Tryz.prog 23 #[.slice q6 ML c6, .agg #[.int .i64 g.applied, .int .i64 g.count, .int .i64 g.fin, .int .i64 g.root, .int .i64 g.height, .int .i64 g.splits, .int .i64 g.areas], .agg #[.int .i64 d.id, .int .i64 d.org, .int .i64 d.format, .int .i64 d.length, .int .i64 d.block, .int .i64 d.keyAt, .int .i64 d.keyLength, .int .i64 d.interval, .int .i64 d.area, .int .i64 d.freeInterval, .int .i64 d.freeArea, .int .i64 d.base, .int .i64 d.altAt, .int .i64 d.altLength, .bool d.unique, .int .i64 d.cls, .string ⟨d.volume.toArray⟩, .string ⟨d.owner.toArray⟩, .int .i64 d.created, .int .i64 d.expires, .bool d.archived], .slice (some ⟨g7, 0, none⟩) n1 c7, .string ⟨key.toArray⟩] W fun e w' => e = .returned (.bool true) ∧ Ext W w') := Lib.hid (fun W e => by
              have hli := own_cellsND (own_ext Hst6.out.lst (he7.trans e))
              rw [← Hn.out, itK_all] at hli
              have := leads_any q6 c6 ML M g d (itemsB bs) pgs 1 key (some ⟨g7, 0, none⟩) c7 W (Hs6.out.ext (he7.trans e)) HML.out.symm HBt2.out.small hli (by rw [itemsB_len]; have := Hn.out; omega) HBt2.out.door HBt2.out.sub HBt2.out.srt rfl
              rw [itemsB_len, Hn.out, ← hn1] at this
              exact this)
            have HX7 := Lib.hid (Hst6.out.ext.trans he7)
            have hWl := HWn.out.1
            have hfin := HWn.out.2
            have hwW : IntKind.i64.wrap (200 + (WL : Int)) = 200 + (WL : Int) := IntWalk.i64_in _ (by omega)
            have Hfin := Lib.hid hfin
            have HWl := Lib.hid hWl
            rw [← hn1]
            clear he7 hi7 hh6 hd6 hn1 hfin hWl HBs
            have hqq : (200 + (WL : Int) == 200 + (WL : Int)) = true := by simp
            go_wp2_with (first
              | (go_at_call 13; refine HI7.out.mono ?_; rintro e w8 ⟨rfl, he8⟩; have hh8 := hh7.ext he8; have hd8 := hd7.ext he8)
              | ((with_reducible (show wpList _ _ _ (⟨some 99, _, _, _, _, _⟩ :: _) _ _)); refine wpList_hd (o := ⟨some 99, _, _, _, _, _⟩) rfl (.tmp 11) rfl _ rfl g hh8 ?_)
              | ((with_reducible (show wpList _ _ _ (⟨some 100, _, _, _, _, _⟩ :: _) _ _)); refine wpList_ds (o := ⟨some 100, _, _, _, _, _⟩) rfl (.tmp 3) rfl _ rfl d hd8 ?_)
              | (go_at_call 23; refine (HLd.out _ he8).mono ?_; rintro e w9 ⟨rfl, he9⟩; have hh9 := hh8.ext he9; have k2 : w9.cell? ⟨hb, 2, none⟩ = some (.int .i64 (200 + (WL : Int))) := (by rw [← Hfin.out]; exact Blk.val hh9 2 _ rfl); have l9 := Blk.lt hh9))
            go_ret
            exact ⟨rfl, HX7.out.trans (he8.trans he9)⟩
      · have hkI : (100 : Int) < key.length := by omega
        have hkN : 100 < key.length := by omega
        clear hs hn hL hk hsh hmx hkl
        go_enter Tryz.func6, Tryz.ntmps6
        go_upto_region 1 with (fail)
        refine wp_name (fun w0 => Ext w w0 ∧ DsAt w0 w.heap.size d) ⟨hx0, hb0⟩ ?_
        clear hx0 hb0
        rintro w0 ⟨he0, hd0⟩
        go_upto_region 3 with (go_at_call 7; refine (HAw.out _).mono ?_; rintro e w1 ⟨rfl, he1⟩)
        have hx1 := he0.trans he1
        have hd1 := hd0.ext he1
        clear he0 he1 hd0
        go_wp2_with (first
          | ((with_reducible (show wpList _ _ _ (⟨some 18, _, _, _, _, _⟩ :: _) _ _)); refine wpList_ds (o := ⟨some 18, _, _, _, _, _⟩) rfl (.tmp 3) rfl _ rfl d hd1 ?_)
          | (go_at_call 17; refine (HKe.out _).mono ?_; rintro e w2 ⟨rfl, he2⟩)
          | (go_at_call 18; refine (HSh.out _ (Hs.out.ext (hx1.trans he2))).mono ?_; rintro e w3 ⟨rfl, rfl⟩))
        go_ret
        exact ⟨rfl, hx1.trans he2⟩
end Go.Proofs.YtolmoknjmdmpgaaGreat
