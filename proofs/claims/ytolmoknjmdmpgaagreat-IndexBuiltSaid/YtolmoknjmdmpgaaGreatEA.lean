/- An area is added to a tree: the tree that comes of it. No program in sight. -/
import Derived.Test.YtolmoknjmdmpgaaGreatFB
set_option linter.unusedSimpArgs false
set_option linter.unusedVariables false
namespace Dsd
open Go.Proofs.YtolmoknjmdmpgaaGreat (encNE encNS)
abbrev Part := List Itm × List Int
/-- What lies below the entries of a node. -/
def Kids (M : List (List UInt8)) (d : DS) (mn l : Nat) (E : List Ent) (P : List Part) : Prop :=
  P.length = E.length ∧ ∀ k, k < P.length → Sub M d mn l (entAt E k).2 (P.getD k ([], [])).1 (P.getD k ([], [])).2 ∧ (k + 1 < P.length → (entAt E k).1 = lowOf (P.getD (k + 1) ([], [])).1)
def itsOf (P : List Part) : List Itm := (P.map (·.1)).flatten
def pgsOf (P : List Part) : List Int := (P.map (·.2)).flatten
theorem itsOf_app (A B : List Part) : itsOf (A ++ B) = itsOf A ++ itsOf B := by simp [itsOf]
theorem pgsOf_app (A B : List Part) : pgsOf (A ++ B) = pgsOf A ++ pgsOf B := by simp [pgsOf]
theorem itsOf_cons (x : Part) (B : List Part) : itsOf (x :: B) = x.1 ++ itsOf B := by simp [itsOf]
theorem pgsOf_cons (x : Part) (B : List Part) : pgsOf (x :: B) = x.2 ++ pgsOf B := by simp [pgsOf]
theorem node_sub {M : List (List UInt8)} {d : DS} {mn l : Nat} {page : Int} {n : Nd} {P : List Part} (hl : loadD M d page ((l + 1 : Nat) : Int) = (n, 0)) (hm : mn ≤ n.ents.length) (hk : Kids M d mn l n.ents P) :
    Sub M d mn (l + 1) page (itsOf P) (page :: pgsOf P) := by
  refine ⟨by rw [hl], by rw [hl]; exact hm, P, by rw [hl]; exact hk.1, rfl, rfl, ?_⟩
  rw [hl]; exact hk.2
theorem sub_node {M : List (List UInt8)} {d : DS} {mn l : Nat} {page : Int} {it : List Itm} {pgs : List Int} (h : Sub M d mn (l + 1) page it pgs) :
    (loadD M d page ((l + 1 : Nat) : Int)).2 = 0 ∧ mn ≤ (loadD M d page ((l + 1 : Nat) : Int)).1.ents.length ∧ ∃ P : List Part, Kids M d mn l (loadD M d page ((l + 1 : Nat) : Int)).1.ents P ∧ it = itsOf P ∧ pgs = page :: pgsOf P := by
  obtain ⟨h1, h2, P, h3, h4, h5, h6⟩ := h
  exact ⟨h1, h2, P, ⟨h3, h6⟩, h4, h5⟩
theorem part_ne {M : List (List UInt8)} {d : DS} {mn l : Nat} {E : List Ent} {P : List Part} (hk : Kids M d mn l E P) {k : Nat} (h : k < P.length) : (P.getD k ([], [])).1 ≠ [] := sub_ne (hk.2 k h).1
theorem getD_take {α : Type} (L : List α) (c k : Nat) (x : α) (h : k < c) : (L.take c).getD k x = L.getD k x := by simp [List.getD, List.getElem?_take, h]
theorem getD_drop {α : Type} (L : List α) (c k : Nat) (x : α) : (L.drop c).getD k x = L.getD (c + k) x := by simp [List.getD, List.getElem?_drop]
theorem entAt_take (E : List Ent) {c k : Nat} (h : k < c) : entAt (E.take c) k = entAt E k := getD_take E c k _ h
theorem entAt_drop (E : List Ent) (c k : Nat) : entAt (E.drop c) k = entAt E (c + k) := getD_drop E c k _
theorem clr_at : ∀ (E : List Ent) (k : Nat), (entAt (clrL E) k).2 = (entAt E k).2 ∧ (k + 1 < E.length → (entAt (clrL E) k).1 = (entAt E k).1)
  | [], k => by simp [clrL]
  | [x], k => by
    cases k with
    | zero => simp [clrL, entAt]
    | succ k => simp [clrL, entAt]
  | x :: y :: L, k => by
    cases k with
    | zero => simp [clrL, entAt]
    | succ k =>
      have := clr_at (y :: L) k
      simp only [clrL, entAt, List.getD_cons_succ] at this ⊢
      refine ⟨this.1, fun h => this.2 (by simp at h ⊢; omega)⟩
theorem kids_take {M : List (List UInt8)} {d : DS} {mn l : Nat} {E : List Ent} {P : List Part} (hk : Kids M d mn l E P) {c : Nat} (hc : c ≤ E.length) : Kids M d mn l (clrL (E.take c)) (P.take c) := by
  have h1 := hk.1
  refine ⟨by rw [clrL_len, List.length_take, List.length_take]; omega, fun k h => ?_⟩
  have hkc : k < c := by rw [List.length_take] at h; omega
  obtain ⟨e1, e2⟩ := clr_at (E.take c) k
  obtain ⟨s1, s2⟩ := hk.2 k (by rw [List.length_take] at h; omega)
  rw [getD_take _ _ _ _ hkc, e1, entAt_take _ hkc]
  refine ⟨s1, fun h2 => ?_⟩
  rw [List.length_take] at h2
  rw [e2 (by rw [List.length_take]; omega), entAt_take _ hkc, getD_take _ _ _ _ (by omega)]
  exact s2 (by omega)
theorem kids_drop {M : List (List UInt8)} {d : DS} {mn l : Nat} {E : List Ent} {P : List Part} (hk : Kids M d mn l E P) (c : Nat) : Kids M d mn l (E.drop c) (P.drop c) := by
  have h1 := hk.1
  refine ⟨by rw [List.length_drop, List.length_drop, h1], fun k h => ?_⟩
  rw [List.length_drop] at h
  obtain ⟨s1, s2⟩ := hk.2 (c + k) (by omega)
  rw [getD_drop, entAt_drop]
  refine ⟨s1, fun h2 => ?_⟩
  rw [List.length_drop] at h2
  rw [getD_drop]
  exact s2 (by omega)
theorem getD_set {α : Type} (L : List α) (i k : Nat) (y x : α) (h : i < L.length) : (L.set i y).getD k x = if k = i then y else L.getD k x := by
  simp only [List.getD, List.getElem?_set]
  by_cases h1 : i = k
  · subst h1; simp [h]
  · rw [if_neg h1, if_neg (fun e => h1 e.symm)]
theorem kids_set {M M' : List (List UInt8)} {d : DS} {mn l : Nat} {E : List Ent} {P : List Part} (hk : Kids M d mn l E P) {i : Nat} (hi : i < P.length) {x : Part} (hx : Sub M' d mn l (entAt E i).2 x.1 x.2) (hlow : lowOf x.1 = lowOf (P.getD i ([], [])).1)
    (hf : ∀ k, k < P.length → k ≠ i → ∀ q ∈ (P.getD k ([], [])).2, pageOf M' q = pageOf M q) : Kids M' d mn l E (P.set i x) := by
  have h1 := hk.1
  refine ⟨by rw [List.length_set]; exact h1, fun k h => ?_⟩
  rw [List.length_set] at h ⊢
  obtain ⟨s1, s2⟩ := hk.2 k h
  rw [getD_set _ _ _ _ _ hi, getD_set _ _ _ _ _ hi]
  refine ⟨?_, fun h2 => ?_⟩
  · by_cases e : k = i
    · rw [if_pos e, e]; exact hx
    · rw [if_neg e]; exact sub_frame s1 (hf k h e)
  · by_cases e : k + 1 = i
    · rw [if_pos e, hlow, ← e]; exact s2 h2
    · rw [if_neg e]; exact s2 h2
def splP (P : List Part) (i : Nat) (A B : Part) : List Part := P.take i ++ A :: B :: P.drop (i + 1)
theorem splP_len {P : List Part} {i : Nat} (h : i < P.length) (A B : Part) : (splP P i A B).length = P.length + 1 := by simp [splP]; omega
theorem splP_at (P : List Part) {i : Nat} (hi : i < P.length) (A B : Part) (j : Nat) : (splP P i A B).getD j ([], []) = if j < i then P.getD j ([], []) else if j = i then A else if j = i + 1 then B else P.getD (j - 1) ([], []) := by
  have e1 : (P.take i).length = i := by rw [List.length_take]; omega
  unfold splP
  by_cases h1 : j < i
  · rw [if_pos h1]
    simp [List.getD, List.getElem?_append_left (show j < (P.take i).length by omega), List.getElem?_take, h1]
  · rw [if_neg h1]
    obtain ⟨k, rfl⟩ : ∃ k, j = i + k := ⟨j - i, by omega⟩
    have e2 : (P.take i ++ A :: B :: P.drop (i + 1))[i + k]? = (A :: B :: P.drop (i + 1))[k]? := by
      rw [List.getElem?_append_right (by omega), e1, Nat.add_sub_cancel_left]
    simp only [List.getD]
    rw [e2]
    match k with
    | 0 => simp
    | 1 => simp
    | k + 2 =>
      rw [if_neg (by omega), if_neg (by omega)]
      simp only [List.getElem?_cons_succ, List.getElem?_drop]
      congr 2
      omega
theorem kids_ins {M M' : List (List UInt8)} {d : DS} {mn l : Nat} {E : List Ent} {P : List Part} (hk : Kids M d mn l E P) {i : Nat} (hi : i < P.length) {A B : Part} {bound : List UInt8} {pg : Int}
    (hA : Sub M' d mn l (entAt E i).2 A.1 A.2) (hB : Sub M' d mn l pg B.1 B.2) (hlow : lowOf A.1 = lowOf (P.getD i ([], [])).1) (hb : bound = lowOf B.1)
    (hf : ∀ k, k < P.length → k ≠ i → ∀ q ∈ (P.getD k ([], [])).2, pageOf M' q = pageOf M q) : Kids M' d mn l (splE E i bound pg) (splP P i A B) := by
  have h1 := hk.1
  refine ⟨by rw [splP_len hi, splE_len (by omega), h1], fun k h => ?_⟩
  rw [splP_len hi] at h
  rw [splP_len hi, splP_at P hi, splP_at P hi, splE_at E (by omega)]
  by_cases k1 : k < i
  · obtain ⟨s1, s2⟩ := hk.2 k (by omega)
    rw [if_pos k1, if_pos k1]
    refine ⟨sub_frame s1 (hf k (by omega) (by omega)), fun h2 => ?_⟩
    by_cases k2 : k + 1 < i
    · rw [if_pos k2]; exact s2 (by omega)
    · have e : k + 1 = i := by omega
      rw [if_neg k2, if_pos e, hlow, ← e]; exact s2 (by omega)
  · rw [if_neg k1, if_neg k1]
    by_cases k2 : k = i
    · rw [if_pos k2, if_pos k2, if_neg (by omega), if_neg (by omega), if_pos (by omega)]
      exact ⟨hA, fun _ => hb⟩
    · rw [if_neg k2, if_neg k2]
      by_cases k3 : k = i + 1
      · rw [if_pos k3, if_pos k3, if_neg (by omega), if_neg (by omega), if_neg (by omega)]
        refine ⟨hB, fun h2 => ?_⟩
        obtain ⟨s1, s2⟩ := hk.2 i hi
        rw [k3]
        exact s2 (by omega)
      · rw [if_neg k3, if_neg k3, if_neg (by omega), if_neg (by omega), if_neg (by omega)]
        obtain ⟨s1, s2⟩ := hk.2 (k - 1) (by omega)
        refine ⟨sub_frame s1 (hf (k - 1) (by omega) (by omega)), fun h2 => ?_⟩
        have e : k - 1 + 1 = k + 1 - 1 := by omega
        have := s2 (by omega)
        rw [e] at this
        exact this
theorem its_split {P : List Part} {i : Nat} (h : i < P.length) : itsOf P = itsOf (P.take i) ++ (P.getD i ([], [])).1 ++ itsOf (P.drop (i + 1)) := by
  have h1 := flatten_at (L := P.map (·.1)) (i := i) (by simpa using h)
  rw [getD_map (fun x : Part => x.1) P i ([], []) [] rfl] at h1
  rw [← List.map_take, ← List.map_drop] at h1
  exact h1
theorem pgs_split {P : List Part} {i : Nat} (h : i < P.length) : pgsOf P = pgsOf (P.take i) ++ (P.getD i ([], [])).2 ++ pgsOf (P.drop (i + 1)) := by
  have h1 := flatten_at (L := P.map (·.2)) (i := i) (by simpa using h)
  rw [getD_map (fun x : Part => x.2) P i ([], []) [] rfl] at h1
  rw [← List.map_take, ← List.map_drop] at h1
  exact h1
theorem set_split {P : List Part} {i : Nat} (h : i < P.length) (x : Part) : P.set i x = P.take i ++ x :: P.drop (i + 1) := by
  rw [List.set_eq_take_append_cons_drop, if_pos h]
theorem nodup_swap {lo : Int} {A X Y B : List Int} (h : (A ++ X ++ B).Nodup) (hY : Y.Nodup) (hm : ∀ q ∈ Y, q ∈ X ∨ lo < q) (hl : ∀ q ∈ A ++ X ++ B, q ≤ lo) : (A ++ Y ++ B).Nodup := by
  rw [List.nodup_append] at h ⊢
  obtain ⟨h1, h2, h3⟩ := h
  rw [List.nodup_append] at h1 ⊢
  obtain ⟨h4, h5, h6⟩ := h1
  refine ⟨⟨h4, hY, fun a ha y hy e => ?_⟩, h2, fun a ha y hy e => ?_⟩
  · subst e
    rcases hm _ hy with h7 | h7
    · exact h6 a ha a h7 rfl
    · have := hl a (by simp [ha])
      omega
  · subst e
    rcases List.mem_append.1 ha with h7 | h7
    · exact h3 a (List.mem_append_left _ h7) a hy rfl
    · rcases hm _ h7 with h8 | h8
      · exact h3 a (List.mem_append_right _ h8) a hy rfl
      · have := hl a (by simp [hy])
        omega
theorem pgs_mem {P : List Part} {k : Nat} (h : k < P.length) {q : Int} (hq : q ∈ (P.getD k ([], [])).2) : q ∈ pgsOf P := by
  rw [pgs_split h]; exact List.mem_append_left _ (List.mem_append_right _ hq)
/-- Pages of different parts differ. -/
theorem pgs_apart {P : List Part} (hn : (pgsOf P).Nodup) {i k : Nat} (hi : i < P.length) (hk : k < P.length) (hne : k ≠ i) {q : Int} (h1 : q ∈ (P.getD k ([], [])).2) (h2 : q ∈ (P.getD i ([], [])).2) : False := by
  rw [pgs_split hi, List.nodup_append, List.nodup_append] at hn
  obtain ⟨⟨_, _, h3⟩, _, h4⟩ := hn
  by_cases h : k < i
  · refine h3 q ?_ q h2 rfl
    refine pgs_mem (k := k) (by rw [List.length_take]; omega) ?_
    rw [getD_take _ _ _ _ h]; exact h1
  · refine h4 q (List.mem_append_right _ h2) q ?_ rfl
    refine pgs_mem (k := k - (i + 1)) (by rw [List.length_drop]; omega) ?_
    rw [getD_drop, show i + 1 + (k - (i + 1)) = k by omega]; exact h1
theorem lowOf_ins {b : List UInt8} {base : Int} {L : List Itm} (h : L ≠ []) (hb : bl b (lowOf L) = false) : lowOf (insIt b base L) = lowOf L := by
  cases L with
  | nil => exact absurd rfl h
  | cons x L =>
    rw [lowOf_cons] at hb
    simp only [insIt, hb]
    rfl
end Dsd
/- An area is added to a tree: by the nodes of its way, from the lowest on. No program in sight. -/
namespace Dsd
open Go.Proofs.YtolmoknjmdmpgaaGreat (encNE encNS)
theorem ents_take : ∀ {E : List Ent} {b : List UInt8} {k : Nat}, entsB b E = true → 1 ≤ k → k < E.length → entsB b (clrL (E.take k)) = true
  | [], _, _, _, _, h => by simp at h
  | x :: E, b, 1, he, _, hl => by
    obtain ⟨e1, e2, e3, e4, e5⟩ := ents_cons he
    simp only [List.take_succ_cons, List.take_zero, clrL]
    exact ents_mk e1 (by simp) (by simp) (fun h => absurd rfl h) rfl
  | x :: E, b, k + 2, he, _, hl => by
    obtain ⟨e1, e2, e3, e4, e5⟩ := ents_cons he
    have hE : E ≠ [] := fun h => by rw [h] at hl; simp at hl
    have hne : E.take (k + 1) ≠ [] := fun h => by
      rcases List.take_eq_nil_iff.1 h with h | h
      · omega
      · exact hE h
    rw [List.take_succ_cons, clrL_cons x hne]
    refine ents_mk e1 ⟨fun h => absurd (e2.1 h) hE, fun h => ?_⟩ e3 (fun _ => e4 hE) (ents_take e5 (by omega) (by simp at hl; omega))
    have h9 := congrArg List.length h
    rw [clrL_len] at h9
    simp at h9
    exact absurd h9 (fun h => hE h)
theorem node_drop : ∀ {E : List Ent} {b : List UInt8} {k : Nat}, entsB b E = true → (b = [] ∨ 0 < k) → k < E.length → entsB [] (E.drop k) = true
  | [], _, _, _, _, h => by simp at h
  | x :: E, b, 0, he, hb, _ => by
    rcases hb with rfl | hb
    · exact he
    · omega
  | x :: E, b, k + 1, he, _, hl => by
    obtain ⟨e1, e2, e3, e4, e5⟩ := ents_cons he
    rw [List.drop_succ_cons]
    cases k with
    | zero =>
      rw [List.drop_zero]
      have hx : x.1 ≠ [] := fun h => by rw [e2.1 h] at hl; simp at hl
      exact ents_lower (bl_pos hx) e5
    | succ k => exact node_drop e5 (.inr (by omega)) (by simp at hl; omega)
theorem load_fits {M : List (List UInt8)} {d : DS} {page level : Int} (h : (loadD M d page level).2 = 0) : encNE d.interval (loadD M d page level).1 = 0 := by
  unfold loadD at h ⊢
  split at h
  · rename_i h1; exact absurd h h1
  · rename_i h1
    rw [if_neg h1]
    split at h
    · cases h
    · rename_i h2
      rw [if_neg h2]
      have h3 : decE d.interval (pageOf M page).1 = 0 := by
        by_cases h4 : decE d.interval (pageOf M page).1 = 0
        · exact h4
        · exact absurd (.inl h4) h2
      obtain ⟨_, g2, g3⟩ := decE_zero h3
      obtain ⟨n, sp, _, hn, _, _, he, _⟩ := dec_spec g2
      show encNE d.interval (decNd d.interval (pageOf M page).1) = 0
      rw [g3, hn]; exact he
/-- Where a bound lies among the parts of a node. -/
structure At (b : List UInt8) (E : List Ent) (P : List Part) (i : Nat) : Prop where
  lt : i < P.length
  low : bl b (lowOf (P.getD i ([], [])).1) = false
  above : ∀ x ∈ itsOf (P.drop (i + 1)), bl b x.1 = true
  below : ∀ x ∈ itsOf (P.take i), bl b x.1 = false
  prev : 0 < i → (entAt E (i - 1)).1 = lowOf (P.getD i ([], [])).1
theorem srt_head {L : List Itm} (h : Srt L) {x : Itm} (hx : x ∈ L) : lowOf L = x.1 ∨ bl (lowOf L) x.1 = true := by
  cases L with
  | nil => cases hx
  | cons y L =>
    rcases List.mem_cons.1 hx with rfl | hx
    · exact .inl rfl
    · exact .inr ((List.pairwise_cons.1 h).1 x hx)
theorem its_mem {P : List Part} {k : Nat} (h : k < P.length) {q : Itm} (hq : q ∈ (P.getD k ([], [])).1) : q ∈ itsOf P := by
  rw [its_split h]; exact List.mem_append_left _ (List.mem_append_right _ hq)
theorem its_drop_low {M : List (List UInt8)} {d : DS} {mn l : Nat} {E : List Ent} {P : List Part} (hK : Kids M d mn l E P) {k : Nat} (h : k < P.length) : lowOf (itsOf (P.drop k)) = lowOf (P.getD k ([], [])).1 ∧ itsOf (P.drop k) ≠ [] := by
  have e : P.drop k = P.getD k ([], []) :: P.drop (k + 1) := by
    rw [List.drop_eq_getElem_cons h]; simp [List.getD, h]
  have hn := part_ne hK h
  rw [e, itsOf_cons]
  exact ⟨lowOf_append hn, fun h => hn (List.append_eq_nil_iff.1 h).1⟩
theorem at_kids {M : List (List UInt8)} {d : DS} {mn l : Nat} {n : Nd} {P : List Part} {b : List UInt8} (hK : Kids M d mn l n.ents P) (sp : NSpec n) (hsrt : Srt (itsOf P)) (hb : bl b (lowOf (itsOf P)) = false) : At b n.ents P (findNd n.ents b) := by
  have hne : n.ents ≠ [] := by have := sp.l1; intro h9; rw [h9] at this; simp at this
  have hfl := find_lt b hne
  obtain ⟨hf1, hf2⟩ := find_bound b hne
  have hlen := hK.1
  generalize findNd n.ents b = i at *
  have hi : i < P.length := by omega
  have hprev : 0 < i → (entAt n.ents (i - 1)).1 = lowOf (P.getD i ([], [])).1 := fun h => by
    have := (hK.2 (i - 1) (by omega)).2 (by omega)
    rw [show i - 1 + 1 = i by omega] at this
    exact this
  have hl0 : lowOf (itsOf P) = lowOf (P.getD 0 ([], [])).1 := by
    have := (its_drop_low hK (k := 0) (by omega)).1
    simpa using this
  have hlow : bl b (lowOf (P.getD i ([], [])).1) = false := by
    by_cases h0 : 0 < i
    · rw [← hprev h0]; exact hf1 (i - 1) (by omega)
    · have e : i = 0 := by omega
      rw [e, ← hl0]; exact hb
  have hsp := its_split hi
  have hs2 := hsrt
  rw [hsp] at hs2
  refine ⟨hi, hlow, fun x hx => ?_, fun x hx => ?_, hprev⟩
  · by_cases h2 : i + 1 < P.length
    · have h3 := hf2 (by omega)
      rw [(hK.2 i hi).2 h2] at h3
      have h4 := (its_drop_low hK h2).1
      have h5 : Srt (itsOf (P.drop (i + 1))) := (List.pairwise_append.1 hs2).2.1
      rcases srt_head h5 hx with h6 | h6
      · rw [← h6, h4]; exact h3
      · rw [h4] at h6; exact bl_trans h3 h6
    · rw [List.drop_eq_nil_of_le (by omega)] at hx
      cases hx
  · obtain ⟨y, hy, ey⟩ := lowOf_mem (part_ne hK hi)
    have h3 : bl x.1 y.1 = true := srt_mem (List.pairwise_append.1 hs2).1 hx hy
    rw [← ey] at h3
    cases h4 : bl b x.1 with
    | false => rfl
    | true =>
      have := bl_trans h4 h3
      rw [hlow] at this; cases this
theorem at_ins {b : List UInt8} {base : Int} {E : List Ent} {P : List Part} {i : Nat} (h : At b E P i) : insIt b base (itsOf P) = itsOf (P.take i) ++ insIt b base (P.getD i ([], [])).1 ++ itsOf (P.drop (i + 1)) := by
  rw [its_split h.lt, insIt_lt h.above]
  congr 1
  by_cases h0 : itsOf (P.take i) = []
  · rw [h0]; rfl
  · exact insIt_app h0 h.below
/-- What a writer leaves: its pages hold what was written, the others what they held. -/
def MOK (M M' : List (List UInt8)) (W : List Wr) (pgs : List Int) : Prop := (∀ x ∈ W, pageOf M' x.1 = (x.2, 0)) ∧ ∀ q ∈ pgs, (∀ x ∈ W, x.1 ≠ q) → pageOf M' q = pageOf M q
structure Wok (d : DS) (W : List Wr) (on : Int → Prop) (lo hi : Int) : Prop where
  nodup : (W.map (·.1)).Nodup
  pages : ∀ x ∈ W, on x.1 ∨ (lo < x.1 ∧ x.1 ≤ hi)
  len : ∀ x ∈ W, (x.2.length : Int) = d.interval
def PgsOK (pgs pgs' : List Int) (lo hi : Int) : Prop := pgs'.Nodup ∧ ∀ q ∈ pgs', q ∈ pgs ∨ (lo < q ∧ q ≤ hi)
/-- The pages of the way, from a level up. -/
def OnWay (M : List (List UInt8)) (h : Hd) (d : DS) (b : List UInt8) (l : Nat) (q : Int) : Prop := ∃ k, h.height.toNat - l ≤ k ∧ k < h.height.toNat ∧ q = pgAt M h d b k
/-- What the lowest levels make of a part of a tree. -/
def InsAt (M : List (List UInt8)) (h : Hd) (d : DS) (b : List UInt8) (g : Hd) (base : Int) (l : Nat) (seg : List Itm) (pgs : List Int) : Prop :=
  (∀ q, OnWay M h d b l q → q ∈ pgs) ∧ ∃ (W : List Wr) (f : Int), g.fin ≤ f ∧ f ≤ g.fin + l ∧ W.length ≤ 2 * l ∧ Wok d W (OnWay M h d b l) g.fin f ∧
  ((addGo d (stepsTo M h d b h.height.toNat) g [] b base = ({ g with fin := f }, W, 0) ∧ f + 1 ≤ g.fin + l ∧ W.length + 1 ≤ 2 * l ∧
      ∀ M', MOK M M' W pgs → ∃ pgs', Sub M' d 2 l (pgAt M h d b (h.height.toNat - l)) (insIt b base seg) pgs' ∧ PgsOK pgs pgs' g.fin f) ∨
   (∃ (b' : List UInt8) (p' : Int), addGo d (stepsTo M h d b h.height.toNat) g [] b base = addGo d (stepsTo M h d b (h.height.toNat - l)) { g with fin := f } W b' p' ∧ b' ≠ [] ∧ (b'.length : Int) ≤ d.keyLength ∧ pageB p' = true ∧
      ∃ A B : List Itm, A ++ B = insIt b base seg ∧ A ≠ [] ∧ B ≠ [] ∧ b' = lowOf B ∧
        ∀ M', MOK M M' W pgs → ∃ pA pB, Sub M' d 2 l (pgAt M h d b (h.height.toNat - l)) A pA ∧ Sub M' d 2 l p' B pB ∧ PgsOK pgs (pA ++ pB) g.fin f))
theorem ins_zero {M : List (List UInt8)} {h : Hd} {d : DS} {b : List UInt8} {g : Hd} {base : Int} (hb0 : b ≠ []) (hbK : (b.length : Int) ≤ d.keyLength) (hbase : pageB base = true) {seg : List Itm} {pgs : List Int}
    (hs : Sub M d 2 0 (pgAt M h d b h.height.toNat) seg pgs) (hlow : bl b (lowOf seg) = false) : InsAt M h d b g base 0 seg pgs := by
  obtain ⟨⟨low, rfl⟩, rfl⟩ := hs
  rw [lowOf_cons] at hlow
  have hlow : bl b low = false := hlow
  refine ⟨fun q ⟨k, h1, h2, _⟩ => by omega, [], g.fin, Int.le_refl _, by omega, by simp, ⟨by simp, fun x hx => (by cases hx), fun x hx => (by cases hx)⟩, .inr ⟨b, base, rfl, hb0, hbK, hbase, [(low, _)], [(b, base)], ?_, by simp, by simp, rfl, fun M' _ => ⟨[], [], ⟨⟨low, rfl⟩, rfl⟩, ⟨⟨b, rfl⟩, rfl⟩, by simp, fun q hq => by cases hq⟩⟩⟩
  simp [insIt, hlow]
end Dsd
/- An area is added to a tree: one level. No program in sight. -/
namespace Dsd
open Go.Proofs.YtolmoknjmdmpgaaGreat (encNE encNS)
theorem its_fst {P : List Part} {i : Nat} (A B : List Itm) (pA pB : List Int) (c : Nat) : itsOf ((splP P i (A, pA) (B, pB)).take c) = itsOf ((splP P i (A, []) (B, [])).take c) ∧ itsOf ((splP P i (A, pA) (B, pB)).drop c) = itsOf ((splP P i (A, []) (B, [])).drop c) := by
  unfold itsOf
  rw [List.map_take, List.map_take, List.map_drop, List.map_drop]
  have e : (splP P i (A, pA) (B, pB)).map (·.1) = (splP P i (A, []) (B, [])).map (·.1) := by simp [splP]
  rw [e]
  exact ⟨rfl, rfl⟩
theorem keyed_nums {d : DS} (hk : keyedB d = true) : isSizeB d.interval = true ∧ 1 ≤ d.keyLength ∧ d.keyLength ≤ d.interval / 16 ∧ (d.interval = 128 ∨ d.interval = 256 ∨ d.interval = 512) := by
  obtain ⟨h1, _, _, _, h5, h6, _⟩ := keyed_spec hk
  have hs := (valid_spec h1).2.2.1
  refine ⟨hs, h5, h6, ?_⟩
  unfold isSizeB at hs
  simp at hs
  omega
theorem its_ne {P : List Part} {k : Nat} (h : k < P.length) (hn : (P.getD k ([], [])).1 ≠ []) : itsOf P ≠ [] := by
  obtain ⟨x, hx, _⟩ := lowOf_mem hn
  intro e
  have := its_mem h hx
  rw [e] at this; cases this
theorem its_low {P : List Part} {k : Nat} (h : k < P.length) (hn : (P.getD k ([], [])).1 ≠ []) : lowOf (itsOf (P.drop k)) = lowOf (P.getD k ([], [])).1 := by
  have e : P.drop k = P.getD k ([], []) :: P.drop (k + 1) := by
    rw [List.drop_eq_getElem_cons h]; simp [List.getD, h]
  rw [e, itsOf_cons]
  exact lowOf_append hn
theorem spl_keys {E : List Ent} {P : List Part} (hlen : P.length = E.length) (hk : ∀ k, k + 1 < P.length → (entAt E k).1 = lowOf (P.getD (k + 1) ([], [])).1) {i : Nat} (hi : i < P.length) {A B : Part} {bound : List UInt8} {pg : Int}
    (hlow : lowOf A.1 = lowOf (P.getD i ([], [])).1) (hb : bound = lowOf B.1) {k : Nat} (h2 : k + 1 < P.length + 1) : (entAt (splE E i bound pg) k).1 = lowOf ((splP P i A B).getD (k + 1) ([], [])).1 := by
  rw [splP_at P hi, splE_at E (by omega)]
  by_cases k1 : k < i
  · rw [if_pos k1]
    by_cases k2 : k + 1 < i
    · rw [if_pos k2]; exact hk k (by omega)
    · have e : k + 1 = i := by omega
      rw [if_neg k2, if_pos e, hlow, ← e]; exact hk k (by omega)
  · rw [if_neg k1]
    by_cases k2 : k = i
    · rw [if_pos k2, if_neg (by omega), if_neg (by omega), if_pos (by omega)]
      exact hb
    · rw [if_neg k2]
      by_cases k3 : k = i + 1
      · rw [if_pos k3, if_neg (by omega), if_neg (by omega), if_neg (by omega), k3]
        exact hk i (by omega)
      · rw [if_neg k3, if_neg (by omega), if_neg (by omega), if_neg (by omega)]
        have e : k - 1 + 1 = k + 1 - 1 := by omega
        have := hk (k - 1) (by omega)
        rw [e] at this
        exact this
/-- The keys of a node are low bounds of its parts. -/
theorem kids_keys {M : List (List UInt8)} {d : DS} {mn l : Nat} {n : Nd} {P : List Part} {K : Nat} (hK : Kids M d mn l n.ents P) (sp : NSpec n) (hk : ∀ x ∈ itsOf P, x.1.length ≤ K) : ∀ x ∈ n.ents, x.1.length ≤ K := by
  intro x hx
  obtain ⟨k, hkl, rfl⟩ := List.getElem_of_mem hx
  have e : entAt n.ents k = n.ents[k] := by simp [entAt, List.getD, hkl]
  by_cases hl : k + 1 = n.ents.length
  · rw [← e, node_last sp hl]; simp
  · have h1 := hK.1
    rw [← e, (hK.2 k (by omega)).2 (by omega)]
    obtain ⟨y, hy, ey⟩ := lowOf_mem (part_ne hK (k := k + 1) (by omega))
    rw [ey]
    exact hk y (its_mem (by omega) hy)
/-- A node in which one entry has become two. -/
theorem ins_node {size : Int} {n : Nd} {i : Nat} {b : List UInt8} {p : Int} {K : Nat} (sp : NSpec n) (hs : isSizeB size = true) (hf : encNE size n = 0) (hK : (K : Int) ≤ size / 16) (hkeys : ∀ x ∈ n.ents, x.1.length ≤ K) (hi : i < n.ents.length) (hb0 : b ≠ []) (hbK : b.length ≤ K) (hp : pageB p = true)
    (h1 : 0 < i → bl (entAt n.ents (i - 1)).1 b = true) (h2 : (entAt n.ents i).1 ≠ [] → bl b (entAt n.ents i).1 = true) :
    insertNd n (i : Int) b p = (⟨n.level, n.next, splE n.ents i b p⟩, 0) ∧ NSpec ⟨n.level, n.next, splE n.ents i b p⟩ ∧ (∀ x ∈ splE n.ents i b p, x.1.length ≤ K) ∧ (6 + entsN [] (splE n.ents i b p) : Int) ≤ size + 6 + K := by
  obtain ⟨_, hnb, hsz⟩ := encNE_zero hf
  unfold sizeNd at hsz
  rw [if_pos hnb] at hsz
  have hsize : size = 128 ∨ size = 256 ∨ size = 512 := by unfold isSizeB at hs; simp at hs; omega
  have hK32 : K ≤ 32 := by omega
  have hlo := entsN_low [] n.ents
  have hlen : n.ents.length ≤ 84 := by omega
  have he := ents_ins (E := n.ents) (b := []) hp hb0 (by omega) sp.ents hi (fun _ => bl_pos hb0) h1 h2
  have hsz2 := ins_size (pg := p) sp.ents hi (fun _ => .inl (bl_pos hb0)) h1 h2
  refine ⟨?_, ⟨by simp only; rw [splE_len hi]; omega, by simp only; rw [splE_len hi]; omega, sp.v1, sp.v2, sp.x1, sp.x2, he⟩, fun x hx => ?_, by omega⟩
  · unfold insertNd
    rw [if_neg, if_neg, if_neg (by omega)]
    · rfl
    · rintro (h | h | h | h)
      · exact hb0 h
      · omega
      · have := h1 (by omega)
        rw [Int.toNat_natCast] at h
        rw [h.2] at this; cases this
      · rw [Int.toNat_natCast] at h
        have := h2 h.1
        rw [h.2] at this; cases this
    · rintro (h | h | h | h)
      · rw [hnb] at h; cases h
      · rw [hp] at h; cases h
      · omega
      · omega
  · unfold splE at hx
    simp only [List.mem_append, List.mem_cons] at hx
    have hei : (entAt n.ents i).1.length ≤ K := by
      have e : entAt n.ents i = n.ents[i] := by simp [entAt, List.getD, hi]
      rw [e]; exact hkeys _ (List.getElem_mem hi)
    rcases hx with hx | rfl | rfl | hx
    · exact hkeys x (List.mem_of_mem_take hx)
    · exact hbK
    · exact hei
    · exact hkeys x (List.mem_of_mem_drop hx)
/-- The halves of a node that does not fit. -/
theorem split_node {size : Int} {n : Nd} {K : Nat} {fin : Int} (sp : NSpec n) (hs : isSizeB size = true) (hK : (K : Int) ≤ size / 16) (hkeys : ∀ x ∈ n.ents, x.1.length ≤ K) (ht : (6 + entsN [] n.ents : Int) ≤ size + 6 + K) (hno : ¬ (6 + entsN [] n.ents : Int) ≤ size) (hf0 : 0 ≤ fin) (hf : fin ≤ 16777216) :
    4 ≤ n.ents.length ∧ splitNd n = (⟨n.level, 0, clrL (n.ents.take ((n.ents.length + 1) / 2))⟩, ⟨n.level, n.next, n.ents.drop ((n.ents.length + 1) / 2)⟩, (entAt n.ents ((n.ents.length + 1) / 2 - 1)).1, 0) ∧
      encNE size ⟨n.level, fin, clrL (n.ents.take ((n.ents.length + 1) / 2))⟩ = 0 ∧ encNE size ⟨n.level, n.next, n.ents.drop ((n.ents.length + 1) / 2)⟩ = 0 := by
  have hsize : size = 128 ∨ size = 256 ∨ size = 512 := by unfold isSizeB at hs; simp at hs; omega
  have hup := entsN_le n.ents [] K hkeys
  have h4 : 4 ≤ n.ents.length := by
    have h9 : n.ents.length * (6 + K) ≤ n.ents.length * (6 + size.toNat / 16) := Nat.mul_le_mul_left _ (by omega)
    rcases hsize with rfl | rfl | rfl
    · simp at h9 hK; omega
    · simp at h9 hK; omega
    · simp at h9 hK; omega
  have hl2 := sp.l2
  obtain ⟨f1, f2⟩ := halves_fit hs hK hkeys ht
  have s1 : nodeB ⟨n.level, fin, clrL (n.ents.take ((n.ents.length + 1) / 2))⟩ = true := node_iff.2 ⟨by simp only; rw [clrL_len, List.length_take]; omega, by simp only; rw [clrL_len, List.length_take]; omega, sp.v1, sp.v2, hf0, hf, ents_take sp.ents (by omega) (by omega)⟩
  have s2 : nodeB ⟨n.level, n.next, n.ents.drop ((n.ents.length + 1) / 2)⟩ = true := node_iff.2 ⟨by simp only; rw [List.length_drop]; omega, by simp only; rw [List.length_drop]; omega, sp.v1, sp.v2, sp.x1, sp.x2, node_drop sp.ents (.inl rfl) (by omega)⟩
  refine ⟨h4, ?_, encNE_ok hs s1 f1, encNE_ok hs s2 f2⟩
  unfold splitNd
  rw [if_neg (by rw [node_iff.2 sp]; simp), if_neg (by omega)]
theorem enc_len {size : Int} {n : Nd} (h : encNE size n = 0) : ((encNS size n).length : Int) = size := by
  obtain ⟨h1, h2, h3⟩ := encNE_zero h
  have := size_pos h1
  rw [encNS_ok h]
  unfold encN
  unfold sizeNd at h3
  rw [if_pos h2] at h3
  rw [List.length_append, List.length_replicate, formL_len]
  omega
set_option maxHeartbeats 1000000 in
theorem ins_step {M : List (List UInt8)} {h : Hd} {d : DS} {b : List UInt8} {g : Hd} {base : Int} (hk : keyedB d = true) (hh : 0 ≤ h.height) (hfin : 0 ≤ g.fin) (hmax : g.fin + h.height + 1 ≤ 16777216) {l : Nat} (hl : l + 1 ≤ h.height.toNat) {seg : List Itm} {pgs : List Int}
    (hs : Sub M d 2 (l + 1) (pgAt M h d b (h.height.toNat - (l + 1))) seg pgs) (hsrt : Srt seg) (hnd : pgs.Nodup) (hpl : ∀ q ∈ pgs, q ≤ g.fin) (hks : ∀ x ∈ seg, (x.1.length : Int) ≤ d.keyLength ∧ x.1 ≠ b) (hlow : bl b (lowOf seg) = false)
    (ih : ∀ (seg' : List Itm) (pgs' : List Int), Sub M d 2 l (pgAt M h d b (h.height.toNat - l)) seg' pgs' → Srt seg' → pgs'.Nodup → (∀ q ∈ pgs', q ≤ g.fin) → (∀ x ∈ seg', (x.1.length : Int) ≤ d.keyLength ∧ x.1 ≠ b) → bl b (lowOf seg') = false → InsAt M h d b g base l seg' pgs') :
    InsAt M h d b g base (l + 1) seg pgs := by
  obtain ⟨hsz, hk1, hk16, hsize⟩ := keyed_nums hk
  obtain ⟨h0, hm, P, hK, rfl, rfl⟩ := sub_node hs
  obtain ⟨j, hj⟩ : ∃ j, h.height.toNat - (l + 1) = j := ⟨_, rfl⟩
  have hHl : h.height.toNat - l = j + 1 := by omega
  have hlev : h.height - (j : Int) = ((l + 1 : Nat) : Int) := by omega
  rw [hj] at h0 hm hK hnd hpl
  rw [hHl] at ih
  unfold InsAt
  rw [hj]
  have hndj : ndAt M h d b j = (loadD M d (pgAt M h d b j) ((l + 1 : Nat) : Int)).1 := by unfold ndAt; rw [hlev]
  have sp := (load_spec h0).1
  have hnl := (load_spec h0).2
  have hnf := load_fits h0
  have hload : loadD M d (pgAt M h d b j) ((l + 1 : Nat) : Int) = (ndAt M h d b j, 0) := Prod.ext hndj.symm h0
  rw [← hndj] at sp hnl hnf hm hK
  have hpg := pgAt_succ M h d b j
  have hst : stepsTo M h d b (j + 1) = (pgAt M h d b j, findNd (ndAt M h d b j).ents b, ndAt M h d b j) :: stepsTo M h d b j := rfl
  clear hndj h0 hs
  generalize ndAt M h d b j = n at *
  have hat := at_kids hK sp hsrt hlow
  generalize findNd n.ents b = i at *
  have hPl := hK.1
  have hil := hat.lt
  have hchild := (hK.2 i hil).1
  rw [← hpg] at hchild
  have hisp := its_split hil
  have hpsp := pgs_split hil
  obtain ⟨hnd1, hnd2⟩ := List.nodup_cons.1 hnd
  have hsrt2 := hsrt
  rw [hisp] at hsrt2
  have hcs : Srt (P.getD i ([], [])).1 := (List.pairwise_append.1 (List.pairwise_append.1 hsrt2).1).2.1
  have hcn : (P.getD i ([], [])).2.Nodup := by
    rw [hpsp] at hnd2
    exact (List.nodup_append.1 (List.nodup_append.1 hnd2).1).2.1
  have hcne := part_ne hK hil
  obtain ⟨hway, W, f, hf1, hf2, hWl, hW, hout⟩ := ih (P.getD i ([], [])).1 (P.getD i ([], [])).2 hchild hcs hcn (fun q hq => hpl q (List.mem_cons_of_mem _ (pgs_mem hil hq))) (fun x hx => hks x (its_mem hil hx)) hat.low
  clear ih
  have hway' : ∀ q, OnWay M h d b (l + 1) q → q ∈ pgAt M h d b j :: pgsOf P := by
    rintro q ⟨k, k1, k2, rfl⟩
    by_cases e : k = j
    · rw [e]; simp
    · exact List.mem_cons_of_mem _ (pgs_mem hil (hway _ ⟨k, by omega, k2, rfl⟩))
  have hup : ∀ q, OnWay M h d b l q → OnWay M h d b (l + 1) q := by
    rintro q ⟨k, k1, k2, rfl⟩
    exact ⟨k, by omega, k2, rfl⟩
  have hhere : OnWay M h d b (l + 1) (pgAt M h d b j) := ⟨j, by omega, by omega, rfl⟩
  have hpj : pgAt M h d b j ≤ g.fin := hpl _ (by simp)
  have hWin : ∀ x ∈ W, x.1 ∈ (P.getD i ([], [])).2 ∨ (g.fin < x.1 ∧ x.1 ≤ f) := fun x hx => (hW.pages x hx).imp (hway _) id
  have hjW : ∀ x ∈ W, x.1 ≠ pgAt M h d b j := fun x hx e => by
    rcases hWin x hx with h1 | h1
    · rw [e] at h1; exact hnd1 (pgs_mem hil h1)
    · omega
  have hmokc : ∀ (M' : List (List UInt8)) (W' : List Wr), MOK M M' W' (pgAt M h d b j :: pgsOf P) → (∀ x ∈ W, x ∈ W') → (∀ x ∈ W', x ∈ W ∨ x.1 = pgAt M h d b j ∨ g.fin < x.1) → MOK M M' W (P.getD i ([], [])).2 := fun M' W' hM hs1 hs2 => by
    refine ⟨fun x hx => hM.1 x (hs1 x hx), fun q hq hne => hM.2 q (List.mem_cons_of_mem _ (pgs_mem hil hq)) fun x hx e => ?_⟩
    rcases hs2 x hx with h1 | h1 | h1
    · exact hne x h1 e
    · rw [h1] at e; rw [← e] at hq; exact hnd1 (pgs_mem hil hq)
    · have := hpl q (List.mem_cons_of_mem _ (pgs_mem hil hq)); omega
  have hframe : ∀ (M' : List (List UInt8)) (W' : List Wr), MOK M M' W' (pgAt M h d b j :: pgsOf P) → (∀ x ∈ W', x ∈ W ∨ x.1 = pgAt M h d b j ∨ g.fin < x.1) → ∀ k, k < P.length → k ≠ i → ∀ q ∈ (P.getD k ([], [])).2, pageOf M' q = pageOf M q := fun M' W' hM hs2 k hkl hki q hq => by
    refine hM.2 q (List.mem_cons_of_mem _ (pgs_mem hkl hq)) fun x hx e => ?_
    have hq2 := hpl q (List.mem_cons_of_mem _ (pgs_mem hkl hq))
    rcases hs2 x hx with h1 | h1 | h1
    · rcases hWin x h1 with h2 | h2
      · rw [e] at h2; exact pgs_apart hnd2 hil hkl hki hq h2
      · omega
    · rw [h1] at e; rw [← e] at hq; exact hnd1 (pgs_mem hkl hq)
    · omega
  have hlows : lowOf (insIt b base (P.getD i ([], [])).1) = lowOf (P.getD i ([], [])).1 := lowOf_ins hcne hat.low
  have hpq : (pgAt M h d b j :: pgsOf P) = (pgAt M h d b j :: pgsOf (P.take i)) ++ (P.getD i ([], [])).2 ++ pgsOf (P.drop (i + 1)) := by rw [hpsp]; simp
  have hswap : ∀ Y : List Int, PgsOK (P.getD i ([], [])).2 Y g.fin f → ((pgAt M h d b j :: pgsOf (P.take i)) ++ Y ++ pgsOf (P.drop (i + 1))).Nodup ∧ ∀ q ∈ (pgAt M h d b j :: pgsOf (P.take i)) ++ Y ++ pgsOf (P.drop (i + 1)), q ∈ pgAt M h d b j :: pgsOf P ∨ (g.fin < q ∧ q ≤ f) := fun Y hY => by
    refine ⟨nodup_swap (lo := g.fin) (X := (P.getD i ([], [])).2) (by rw [← hpq]; exact hnd) hY.1 (fun q hq => (hY.2 q hq).imp id (·.1)) (by rw [← hpq]; exact hpl), fun q hq => ?_⟩
    rw [hpq]
    rcases List.mem_append.1 hq with h1 | h1
    · rcases List.mem_append.1 h1 with h2 | h2
      · exact .inl (List.mem_append_left _ (List.mem_append_left _ h2))
      · rcases hY.2 q h2 with h3 | h3
        · exact .inl (List.mem_append_left _ (List.mem_append_right _ h3))
        · exact .inr h3
    · exact .inl (List.mem_append_right _ h1)
  rcases hout with ⟨hA, hA1, hA2, hA3⟩ | ⟨b', p', hB, hb'0, hb'K, hp', A, Bt, hAB, hAn, hBn, hbl, hB3⟩
  · refine ⟨hway', W, f, hf1, by omega, by omega, ⟨hW.nodup, fun x hx => (hW.pages x hx).imp (hup _) id, hW.len⟩, .inl ⟨hA, by omega, by omega, fun M' hM => ?_⟩⟩
    obtain ⟨pgs', hs', hps'⟩ := hA3 M' (hmokc M' W hM (fun x hx => hx) (fun x hx => .inl hx))
    rw [hHl] at hs'
    have hl' : loadD M' d (pgAt M h d b j) ((l + 1 : Nat) : Int) = (n, 0) := by rw [load_same (hM.2 _ (by simp) hjW), hload]
    have hK' := kids_set (M' := M') hK hil (x := (insIt b base (P.getD i ([], [])).1, pgs')) (by rw [← hpg]; exact hs') hlows (hframe M' W hM (fun x hx => .inl hx))
    have hS := node_sub hl' hm hK'
    rw [set_split hil, itsOf_app, itsOf_cons, pgsOf_app, pgsOf_cons, ← List.append_assoc, ← List.append_assoc, ← at_ins hat] at hS
    obtain ⟨q1, q2⟩ := hswap pgs' hps'
    exact ⟨_, hS, by simpa using q1, fun q hq => q2 q (by simpa using hq)⟩
  · rw [hHl, hst] at hB
    have hsrtc : Srt (A ++ Bt) := by rw [hAB]; exact insIt_srt hcs fun x hx => (hks x (its_mem hil hx)).2
    have hlA : lowOf A = lowOf (P.getD i ([], [])).1 := by rw [← hlows, ← hAB, lowOf_append hAn]
    have hprev : 0 < i → bl (entAt n.ents (i - 1)).1 b' = true := fun hi0 => by
      rw [hat.prev hi0, ← hlA, hbl]
      obtain ⟨x, hx, ex⟩ := lowOf_mem hAn
      obtain ⟨y, hy, ey⟩ := lowOf_mem hBn
      rw [ex, ey]
      exact srt_mem hsrtc hx hy
    have hnext : (entAt n.ents i).1 ≠ [] → bl b' (entAt n.ents i).1 = true := fun hne => by
      have hi1 : i + 1 < P.length := by
        rcases Nat.lt_or_ge (i + 1) P.length with h9 | h9
        · exact h9
        · exact absurd (node_last sp (by omega)) hne
      rw [(hK.2 i hil).2 hi1, hbl]
      obtain ⟨y, hy, ey⟩ := lowOf_mem (part_ne hK hi1)
      obtain ⟨z, hz, ez⟩ := lowOf_mem hBn
      have hyd : y ∈ itsOf (P.drop (i + 1)) := its_mem (k := 0) (by rw [List.length_drop]; omega) (by rw [getD_drop]; exact hy)
      rw [ey, ez]
      have hz2 : z ∈ insIt b base (P.getD i ([], [])).1 := by rw [← hAB]; exact List.mem_append_right _ hz
      rcases insIt_mem.1 hz2 with rfl | hz3
      · exact hat.above y hyd
      · exact srt_mem hsrt2 (List.mem_append_right _ hz3) hyd
    have hkeys : ∀ x ∈ n.ents, x.1.length ≤ d.keyLength.toNat := kids_keys hK sp fun x hx => by have := (hks x hx).1; omega
    obtain ⟨hins, sp', hkeys', hsz'⟩ := ins_node (p := p') (K := d.keyLength.toNat) sp hsz hnf (by omega) hkeys (by omega) hb'0 (by omega) hp' hprev hnext
    have hEl := splE_len (E := n.ents) (i := i) (by omega) b' p'
    have hKidsAt : ∀ (M' : List (List UInt8)) (pA pB : List Int), Sub M' d 2 l (pgAt M h d b (j + 1)) A pA → Sub M' d 2 l p' Bt pB → (∀ k, k < P.length → k ≠ i → ∀ q ∈ (P.getD k ([], [])).2, pageOf M' q = pageOf M q) → Kids M' d 2 l (splE n.ents i b' p') (splP P i (A, pA) (Bt, pB)) := fun M' pA pB hsA hsB hfr =>
      kids_ins hK hil (by rw [← hpg]; exact hsA) hsB hlA hbl hfr
    have hitsI : ∀ pA pB, itsOf (splP P i (A, pA) (Bt, pB)) = insIt b base (itsOf P) := fun pA pB => by
      rw [at_ins hat, ← hAB]
      unfold splP
      rw [itsOf_app, itsOf_cons, itsOf_cons]
      simp
    have hpgsI : ∀ pA pB, pgsOf (splP P i (A, pA) (Bt, pB)) = pgsOf (P.take i) ++ (pA ++ pB) ++ pgsOf (P.drop (i + 1)) := fun pA pB => by
      unfold splP
      rw [pgsOf_app, pgsOf_cons, pgsOf_cons]
      simp
    have hadd : addGo d ((pgAt M h d b j, i, n) :: stepsTo M h d b j) { g with fin := f } W b' p' = addGo d ((pgAt M h d b j, i, n) :: stepsTo M h d b j) { g with fin := f } W b' p' := rfl
    conv at hadd => rhs; unfold addGo
    simp only [hins] at hadd
    rw [if_neg (by simp), fits_iff hsz (node_iff.2 sp')] at hadd
    have hlevn : n.level = ((l + 1 : Nat) : Int) := hnl
    generalize hE' : splE n.ents i b' p' = E' at *
    by_cases hfit : (6 + entsN [] E' : Int) ≤ d.interval
    · have henc := encNE_ok hsz (node_iff.2 sp') hfit
      rw [decide_eq_true hfit, if_pos rfl, henc] at hadd
      refine ⟨hway', W ++ [(pgAt M h d b j, encNS d.interval ⟨n.level, n.next, E'⟩)], f, hf1, by omega, by simp; omega, ⟨?_, fun x hx => ?_, fun x hx => ?_⟩, .inl ⟨hB.trans hadd, by omega, by simp; omega, fun M' hM => ?_⟩⟩
      · rw [List.map_append, List.nodup_append]
        refine ⟨hW.nodup, by simp, fun a ha c hc e => ?_⟩
        obtain ⟨x, hx, rfl⟩ := List.mem_map.1 ha
        simp at hc
        exact hjW x hx (e.trans hc)
      · rcases List.mem_append.1 hx with h1 | h1
        · exact (hW.pages x h1).imp (hup _) id
        · simp at h1; subst h1; exact .inl hhere
      · rcases List.mem_append.1 hx with h1 | h1
        · exact hW.len x h1
        · simp at h1; subst h1; exact enc_len henc
      · have hsub : ∀ x ∈ W ++ [(pgAt M h d b j, encNS d.interval ⟨n.level, n.next, E'⟩)], x ∈ W ∨ x.1 = pgAt M h d b j ∨ g.fin < x.1 := fun x hx => by
          rcases List.mem_append.1 hx with h1 | h1
          · exact .inl h1
          · simp at h1; subst h1; exact .inr (.inl rfl)
        obtain ⟨pA, pB, hsA, hsB, hps⟩ := hB3 M' (hmokc M' _ hM (fun x hx => List.mem_append_left _ hx) hsub)
        rw [hHl] at hsA
        have hl' : loadD M' d (pgAt M h d b j) ((l + 1 : Nat) : Int) = (⟨n.level, n.next, E'⟩, 0) := by
          have := load_enc (d := d) (n := ⟨n.level, n.next, E'⟩) (hM.1 (pgAt M h d b j, encNS d.interval ⟨n.level, n.next, E'⟩) (List.mem_append_right _ (List.mem_singleton.2 rfl))) henc
          simp only [hlevn] at this ⊢
          exact this
        have hS := node_sub hl' (by simp only; omega) (hKidsAt M' pA pB hsA hsB (hframe M' _ hM hsub))
        rw [hitsI, hpgsI] at hS
        obtain ⟨q1, q2⟩ := hswap (pA ++ pB) hps
        exact ⟨_, hS, by simpa using q1, fun q hq => q2 q (by simpa using hq)⟩
    · obtain ⟨h4, hspl, he1, he2⟩ := split_node (n := ⟨n.level, n.next, E'⟩) (fin := f + 1) sp' hsz (by omega) hkeys' hsz' hfit (by omega) (by omega)
      rw [decide_eq_false hfit, if_neg (by simp), hspl] at hadd
      simp only [] at h4 hspl he1 he2
      simp only [he1, he2, ne_eq, not_true_eq_false, if_false] at hadd
      have hcc : (E'.length + 1) / 2 < E'.length := by omega
      have hc2 : 2 ≤ (E'.length + 1) / 2 := by omega
      have hc3 : 2 ≤ E'.length - (E'.length + 1) / 2 := by omega
      generalize (E'.length + 1) / 2 = c at *
      have hspPl : ∀ pA pB, (splP P i (A, pA) (Bt, pB)).length = E'.length := fun pA pB => by rw [splP_len hil]; omega
      have hparts : ∀ k, k < E'.length → ((splP P i (A, []) (Bt, [])).getD k ([], [])).1 ≠ [] := fun k hk' => by
        rw [splP_at P hil]
        split
        · exact part_ne hK (by omega)
        · split
          · exact hAn
          · split
            · exact hBn
            · exact part_ne hK (by omega)
      have hmid0 : (entAt E' (c - 1)).1 ≠ [] := by
        intro h9
        have := (ents_last sp'.ents (i := c - 1) (by simp only; omega)).1 h9
        simp only at this
        omega
      have hmidm : entAt E' (c - 1) ∈ E' := by
        have e : entAt E' (c - 1) = E'[c - 1] := by simp [entAt, List.getD, show c - 1 < E'.length by omega]
        rw [e]; exact List.getElem_mem _
      have hmidK := hkeys' _ hmidm
      have hlist : ∀ x ∈ W ++ [(pgAt M h d b j, encNS d.interval ⟨n.level, f + 1, clrL (E'.take c)⟩), (f + 1, encNS d.interval ⟨n.level, n.next, E'.drop c⟩)], x ∈ W ∨ x = (pgAt M h d b j, encNS d.interval ⟨n.level, f + 1, clrL (E'.take c)⟩) ∨ x = (f + 1, encNS d.interval ⟨n.level, n.next, E'.drop c⟩) := fun x hx => by
        rcases List.mem_append.1 hx with h1 | h1
        · exact .inl h1
        · simp at h1; exact .inr h1
      have hsub : ∀ x ∈ W ++ [(pgAt M h d b j, encNS d.interval ⟨n.level, f + 1, clrL (E'.take c)⟩), (f + 1, encNS d.interval ⟨n.level, n.next, E'.drop c⟩)], x ∈ W ∨ x.1 = pgAt M h d b j ∨ g.fin < x.1 := fun x hx => by
        rcases hlist x hx with h1 | rfl | rfl
        · exact .inl h1
        · exact .inr (.inl rfl)
        · exact .inr (.inr (by simp only; omega))
      refine ⟨hway', W ++ [(pgAt M h d b j, encNS d.interval ⟨n.level, f + 1, clrL (E'.take c)⟩), (f + 1, encNS d.interval ⟨n.level, n.next, E'.drop c⟩)], f + 1, by omega, by omega, by simp; omega, ⟨?_, fun x hx => ?_, fun x hx => ?_⟩,
        .inr ⟨(entAt E' (c - 1)).1, f + 1, hB.trans hadd, hmid0, by omega, ?_, itsOf ((splP P i (A, []) (Bt, [])).take c), itsOf ((splP P i (A, []) (Bt, [])).drop c), ?_, ?_, ?_, ?_, fun M' hM => ?_⟩⟩
      · rw [List.map_append, List.nodup_append]
        refine ⟨hW.nodup, ?_, fun a ha e he hae => ?_⟩
        · simp; omega
        · obtain ⟨x, hx, rfl⟩ := List.mem_map.1 ha
          simp at he
          rcases he with rfl | rfl
          · exact hjW x hx hae
          · rcases hWin x hx with h1 | h1
            · have := hpl _ (List.mem_cons_of_mem _ (pgs_mem hil h1)); omega
            · omega
      · rcases hlist x hx with h1 | rfl | rfl
        · rcases hW.pages x h1 with h2 | h2
          · exact .inl (hup _ h2)
          · exact .inr ⟨h2.1, by omega⟩
        · exact .inl hhere
        · exact .inr ⟨by simp only; omega, by simp only; omega⟩
      · rcases hlist x hx with h1 | rfl | rfl
        · exact hW.len x h1
        · exact enc_len he1
        · exact enc_len he2
      · unfold pageB; rw [decide_eq_true (by omega), decide_eq_true (by omega)]; rfl
      · rw [← itsOf_app, List.take_append_drop, hitsI]
      · exact its_ne (k := 0) (by rw [List.length_take, hspPl]; omega) (by rw [getD_take _ _ _ _ (by omega)]; exact hparts 0 (by omega))
      · exact its_ne (k := 0) (by rw [List.length_drop, hspPl]; omega) (by rw [getD_drop]; exact hparts _ (by omega))
      · rw [its_low (by rw [hspPl]; omega) (hparts c (by omega)), ← hE']
        have := spl_keys (A := (A, [])) (B := (Bt, [])) (pg := p') hPl (fun k hk' => (hK.2 k (by omega)).2 hk') hil hlA hbl (k := c - 1) (by omega)
        rw [this, show c - 1 + 1 = c by omega]
      · obtain ⟨pA, pB, hsA, hsB, hps⟩ := hB3 M' (hmokc M' _ hM (fun x hx => List.mem_append_left _ hx) hsub)
        rw [hHl] at hsA
        have hKk := hKidsAt M' pA pB hsA hsB (hframe M' _ hM hsub)
        have hl1 : loadD M' d (pgAt M h d b j) ((l + 1 : Nat) : Int) = (⟨n.level, f + 1, clrL (E'.take c)⟩, 0) := by
          have := load_enc (d := d) (n := ⟨n.level, f + 1, clrL (E'.take c)⟩) (hM.1 (pgAt M h d b j, encNS d.interval ⟨n.level, f + 1, clrL (E'.take c)⟩) (List.mem_append_right _ (by simp))) he1
          simp only [hlevn] at this ⊢
          exact this
        have hl2 : loadD M' d (f + 1) ((l + 1 : Nat) : Int) = (⟨n.level, n.next, E'.drop c⟩, 0) := by
          have := load_enc (d := d) (n := ⟨n.level, n.next, E'.drop c⟩) (hM.1 (f + 1, encNS d.interval ⟨n.level, n.next, E'.drop c⟩) (List.mem_append_right _ (by simp))) he2
          simp only [hlevn] at this ⊢
          exact this
        have hS1 := node_sub hl1 (by simp only; rw [clrL_len, List.length_take]; omega) (kids_take hKk (c := c) (by omega))
        have hS2 := node_sub hl2 (by simp only; rw [List.length_drop]; omega) (kids_drop hKk c)
        rw [(its_fst A Bt pA pB c).1] at hS1
        rw [(its_fst A Bt pA pB c).2] at hS2
        obtain ⟨q1, q2⟩ := hswap (pA ++ pB) hps
        have hpe : pgsOf ((splP P i (A, pA) (Bt, pB)).take c) ++ pgsOf ((splP P i (A, pA) (Bt, pB)).drop c) = pgsOf (P.take i) ++ (pA ++ pB) ++ pgsOf (P.drop (i + 1)) := by rw [← pgsOf_app, List.take_append_drop, hpgsI]
        have hperm : ((pgAt M h d b j :: pgsOf ((splP P i (A, pA) (Bt, pB)).take c)) ++ ((f + 1) :: pgsOf ((splP P i (A, pA) (Bt, pB)).drop c))).Perm ((f + 1) :: ((pgAt M h d b j :: pgsOf (P.take i)) ++ (pA ++ pB) ++ pgsOf (P.drop (i + 1)))) := by
          refine List.perm_middle.trans (List.Perm.cons _ ?_)
          rw [List.cons_append, hpe]
          simp
        refine ⟨_, _, hS1, hS2, hperm.nodup_iff.2 (List.nodup_cons.2 ⟨fun h9 => ?_, q1⟩), fun q hq => ?_⟩
        · rcases q2 _ h9 with h8 | h8
          · have := hpl _ h8; omega
          · omega
        · rcases List.mem_cons.1 (hperm.mem_iff.1 hq) with rfl | h9
          · exact .inr ⟨by omega, by omega⟩
          · exact (q2 q h9).imp id (fun h8 => ⟨h8.1, by omega⟩)
end Dsd
/- An area is added to a tree: the whole. No program in sight. -/
namespace Dsd
open Go.Proofs.YtolmoknjmdmpgaaGreat (encNE encNS)
theorem ins_all {M : List (List UInt8)} {h : Hd} {d : DS} {b : List UInt8} {g : Hd} {base : Int} (hk : keyedB d = true) (hh : 0 ≤ h.height) (hb0 : b ≠ []) (hbK : (b.length : Int) ≤ d.keyLength) (hbase : pageB base = true) (hfin : 0 ≤ g.fin) (hmax : g.fin + h.height + 1 ≤ 16777216) :
    ∀ (l : Nat), l ≤ h.height.toNat → ∀ (seg : List Itm) (pgs : List Int), Sub M d 2 l (pgAt M h d b (h.height.toNat - l)) seg pgs → Srt seg → pgs.Nodup → (∀ q ∈ pgs, q ≤ g.fin) → (∀ x ∈ seg, (x.1.length : Int) ≤ d.keyLength ∧ x.1 ≠ b) → bl b (lowOf seg) = false → InsAt M h d b g base l seg pgs
  | 0, _, seg, pgs, hs, _, _, _, _, hlow => ins_zero hb0 hbK hbase (by simpa using hs) hlow
  | l + 1, hl, seg, pgs, hs, hsrt, hnd, hpl, hks, hlow => ins_step hk hh hfin hmax hl hs hsrt hnd hpl hks hlow (ins_all hk hh hb0 hbK hbase hfin hmax l (by omega))
/-- A tree: what it is over, and its pages. -/
structure Tree (M : List (List UInt8)) (d : DS) (h : Hd) (items : List Itm) (pgs : List Int) : Prop where
  keyed : keyedB d = true
  h0 : 0 ≤ h.height
  sub : Sub M d 2 h.height.toNat h.root items pgs
  srt : Srt items
  low0 : lowOf items = []
  short : ∀ x ∈ items, (x.1.length : Int) ≤ d.keyLength
  nodup : pgs.Nodup
  bound : ∀ q ∈ pgs, q ≤ h.fin
/-- A tree of some height is over many areas. -/
theorem sub_many {M : List (List UInt8)} {d : DS} : ∀ {l : Nat} {page : Int} {it : List Itm} {pgs : List Int}, Sub M d 2 l page it pgs → 2 ^ l ≤ it.length
  | 0, _, _, _, ⟨⟨low, h⟩, _⟩ => by rw [h]; simp
  | l + 1, page, it, pgs, h => by
    obtain ⟨_, hm, P, hK, rfl, _⟩ := sub_node h
    have h1 := hK.1
    have e : P = P.getD 0 ([], []) :: P.getD 1 ([], []) :: P.drop 2 := by
      match P, h1 with
      | [], h1 => rw [List.length_nil] at h1; omega
      | [x], h1 => rw [List.length_singleton] at h1; omega
      | x :: y :: P, _ => simp
    have s0 := sub_many (hK.2 0 (by omega)).1
    have s1 := sub_many (hK.2 1 (by omega)).1
    rw [e, itsOf_cons, itsOf_cons, List.length_append, List.length_append, Nat.pow_succ]
    omega
/-- What an addition leaves. -/
structure Added (M : List (List UInt8)) (d : DS) (h g : Hd) (b : List UInt8) (base : Int) (items : List Itm) (pgs : List Int) (W : List Wr) (g' : Hd) : Prop where
  go : addGo d (stepsTo M h d b h.height.toNat) g [] b base = (g', W, 0)
  fin1 : g.fin ≤ g'.fin
  fin2 : g'.fin ≤ g.fin + h.height + 1
  len : W.length ≤ 2 * h.height.toNat + 1
  ok : Wok d W (OnWay M h d b h.height.toNat) g.fin g'.fin
  tree : ∀ M', MOK M M' W pgs → ∃ pgs', Tree M' d g' (insIt b base items) pgs'
theorem add_tree {M : List (List UInt8)} {d : DS} {h g : Hd} {b : List UInt8} {base : Int} {items : List Itm} {pgs : List Int} (T : Tree M d h items pgs) (hgh : g.height = h.height) (hgr : g.root = h.root) (hgf : h.fin ≤ g.fin) (h5 : h.height ≤ 5)
    (hb0 : b ≠ []) (hbK : (b.length : Int) ≤ d.keyLength) (hbn : ∀ x ∈ items, x.1 ≠ b) (hbase : pageB base = true) (hfin : 0 ≤ g.fin) (hmax : g.fin + h.height + 1 ≤ 16777216) (hroot : pageB h.root = true) :
    ∃ W g', Added M d h g b base items pgs W g' := by
  have hk := T.keyed
  have hh := T.h0
  obtain ⟨hsz, hk1, hk16, hsize⟩ := keyed_nums hk
  have hpl : ∀ q ∈ pgs, q ≤ g.fin := fun q hq => by have := T.bound q hq; omega
  have hI := ins_all (M := M) (h := h) (g := g) (base := base) hk hh hb0 hbK hbase hfin hmax h.height.toNat (Nat.le_refl _) items pgs (by rw [Nat.sub_self]; exact T.sub) T.srt T.nodup hpl (fun x hx => ⟨T.short x hx, hbn x hx⟩) (by rw [T.low0]; exact bl_nil _)
  unfold InsAt at hI
  rw [Nat.sub_self] at hI
  obtain ⟨hway, W, f, hf1, hf2, hWl, hW, hout⟩ := hI
  have hsrt' := insIt_srt (base := base) T.srt hbn
  have hine : items ≠ [] := sub_ne T.sub
  have hlow' : lowOf (insIt b base items) = [] := by rw [lowOf_ins hine (by rw [T.low0]; exact bl_nil _), T.low0]
  have hshort' : ∀ x ∈ insIt b base items, (x.1.length : Int) ≤ d.keyLength := fun x hx => by
    rcases insIt_mem.1 hx with rfl | hx
    · exact hbK
    · exact T.short x hx
  rcases hout with ⟨hA, hA1, hA2, hA3⟩ | ⟨b', p', hB, hb'0, hb'K, hp', A, Bt, hAB, hAn, hBn, hbl, hB3⟩
  · refine ⟨W, { g with fin := f }, hA, hf1, by simp only; omega, by omega, hW, fun M' hM => ?_⟩
    obtain ⟨pgs', hs, hp⟩ := hA3 M' hM
    refine ⟨pgs', hk, by simp only; omega, ?_, hsrt', hlow', hshort', hp.1, fun q hq => ?_⟩
    · simp only [hgh, hgr]; exact hs
    · rcases hp.2 q hq with h1 | h1
      · have := hpl q h1; simp only; omega
      · exact h1.2
  · have hrn : nodeB (rootN { g with fin := f } b' p') = true := node_iff.2 ⟨by simp [rootN], by simp [rootN], by simp only [rootN]; omega, by simp only [rootN]; omega, by simp [rootN], by simp [rootN], by
      refine ents_mk (by simp only [hgr]; exact hroot) ⟨fun h9 => absurd h9 hb'0, fun h9 => by cases h9⟩ (by simp only; omega) (fun _ => bl_pos hb'0) ?_
      exact ents_mk hp' ⟨fun _ => rfl, fun _ => rfl⟩ (by simp) (fun h9 => absurd rfl h9) rfl⟩
    have hrs : (6 + entsN [] (rootN { g with fin := f } b' p').ents : Int) ≤ d.interval := by
      have : entsN [] (rootN { g with fin := f } b' p').ents ≤ 2 * (6 + 32) := entsN_le (rootN { g with fin := f } b' p').ents [] 32 (fun x hx => by
        simp [rootN] at hx
        rcases hx with rfl | rfl
        · simp only; omega
        · simp)
      omega
    have hre := encNE_ok hsz hrn hrs
    have hadd : addGo d [] { g with fin := f } W b' p' = ({ g with height := g.height + 1, fin := f + 1, root := f + 1 }, W ++ [(f + 1, encNS d.interval (rootN { g with fin := f } b' p'))], 0) := by
      unfold addGo
      rw [if_neg (by simp only; omega), hre]
    refine ⟨_, _, hB.trans hadd, by simp only; omega, by simp only; omega, by simp; omega, ⟨?_, fun x hx => ?_, fun x hx => ?_⟩, fun M' hM => ?_⟩
    · rw [List.map_append, List.nodup_append]
      refine ⟨hW.nodup, by simp, fun a ha e he hae => ?_⟩
      obtain ⟨x, hx, rfl⟩ := List.mem_map.1 ha
      simp at he
      rcases hW.pages x hx with h1 | h1
      · have := hpl _ (hway _ h1); omega
      · omega
    · rcases List.mem_append.1 hx with h1 | h1
      · rcases hW.pages x h1 with h2 | h2
        · exact .inl h2
        · exact .inr ⟨h2.1, by simp only; omega⟩
      · simp at h1; subst h1
        exact .inr ⟨by simp only; omega, by simp only; omega⟩
    · rcases List.mem_append.1 hx with h1 | h1
      · exact hW.len x h1
      · simp at h1; subst h1
        exact enc_len hre
    · have hM2 : MOK M M' W pgs := ⟨fun x hx => hM.1 x (List.mem_append_left _ hx), fun q hq hne => hM.2 q hq fun x hx e => by
        rcases List.mem_append.1 hx with h1 | h1
        · exact hne x h1 e
        · simp at h1; subst h1
          have := hpl q hq
          simp only at e; omega⟩
      obtain ⟨pA, pB, hsA, hsB, hps⟩ := hB3 M' hM2
      have hld : loadD M' d (f + 1) ((h.height.toNat + 1 : Nat) : Int) = (rootN { g with fin := f } b' p', 0) := by
        have := load_enc (d := d) (n := rootN { g with fin := f } b' p') (hM.1 (f + 1, encNS d.interval (rootN { g with fin := f } b' p')) (List.mem_append_right _ (by simp))) hre
        have e : (rootN { g with fin := f } b' p').level = ((h.height.toNat + 1 : Nat) : Int) := by simp only [rootN]; omega
        rw [e] at this
        exact this
      have hK : Kids M' d 2 h.height.toNat (rootN { g with fin := f } b' p').ents [(A, pA), (Bt, pB)] := by
        refine ⟨rfl, fun k hk' => ?_⟩
        match k with
        | 0 =>
          refine ⟨?_, fun _ => hbl⟩
          show Sub M' d 2 h.height.toNat g.root A pA
          rw [hgr]; exact hsA
        | 1 => exact ⟨hsB, fun h9 => by simp at h9⟩
        | k + 2 => exact absurd hk' (by simp)
      have hS := node_sub hld (by simp [rootN]) hK
      have eI : itsOf [(A, pA), (Bt, pB)] = insIt b base items := by rw [← hAB]; simp [itsOf]
      have eP : pgsOf [(A, pA), (Bt, pB)] = pA ++ pB := by simp [pgsOf]
      rw [eI, eP] at hS
      refine ⟨(f + 1) :: (pA ++ pB), hk, by simp only; omega, ?_, hsrt', hlow', hshort', List.nodup_cons.2 ⟨fun h9 => ?_, hps.1⟩, fun q hq => ?_⟩
      · have e : (g.height + 1).toNat = h.height.toNat + 1 := by omega
        simp only [e]
        exact hS
      · rcases hps.2 _ h9 with h8 | h8
        · have := hpl _ h8; omega
        · omega
      · rcases List.mem_cons.1 hq with rfl | h9
        · simp
        · rcases hps.2 _ h9 with h8 | h8
          · have := hpl _ h8; simp only; omega
          · simp only; omega
end Dsd
