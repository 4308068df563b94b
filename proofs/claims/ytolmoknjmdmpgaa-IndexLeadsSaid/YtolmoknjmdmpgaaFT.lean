/- A list of areas that grows: its tree, and the pages in memory. No program in sight. -/
import Derived.Test.YtolmoknjmdmpgaaEA
import Derived.Test.YtolmoknjmdmpgaaFK
import Derived.Test.YtolmoknjmdmpgaaFH
set_option linter.unusedSimpArgs false
set_option linter.unusedVariables false
namespace Dsd
open Go.Proofs.Ytolmoknjmdmpgaa (encNE encNS)
theorem growP_at (M : List (List UInt8)) (p : Int) {k : Nat} (hk : k < M.length) : (growP M p).getD k [] = M.getD k [] := by
  unfold growP
  split
  · simp [List.getD, List.getElem?_append_left hk]
  · rfl
theorem putP_self {M : List (List UInt8)} {x : Wr} (h0 : 0 ≤ x.1) (h1 : x.1 < 10000) : pageOf (putP M x) x.1 = (x.2, 0) := by
  have hl : x.1 < ((growP M x.1).length : Int) := by unfold growP; rw [if_pos h1]; simp; omega
  have e : putP M x = (growP M x.1).set x.1.toNat x.2 := by unfold putP; rw [if_pos ⟨h0, hl⟩]
  unfold pageOf
  rw [e, List.length_set, if_pos ⟨h0, hl⟩, getD_set _ _ _ _ _ (by omega), if_pos rfl]
theorem putP_other {M : List (List UInt8)} {x : Wr} {q : Int} (hq : q < (M.length : Int)) (hne : x.1 ≠ q) : pageOf (putP M x) q = pageOf M q := by
  have g := growP_ge M x.1
  have l := putP_len M x
  have e : 0 ≤ q → (putP M x).getD q.toNat [] = M.getD q.toNat [] := fun h0 => by
    unfold putP
    split
    · rename_i h; rw [getD_set _ _ _ _ _ (by omega), if_neg (by omega), growP_at _ _ (by omega)]
    · exact growP_at _ _ (by omega)
  unfold pageOf
  by_cases h0 : 0 ≤ q
  · rw [if_pos ⟨h0, by omega⟩, if_pos ⟨h0, by omega⟩, e h0]
  · rw [if_neg (by omega), if_neg (by omega)]
theorem puts_other {q : Int} : ∀ (W : List Wr) (M : List (List UInt8)), q < (M.length : Int) → (∀ x ∈ W, x.1 ≠ q) → pageOf (putsP M W) q = pageOf M q
  | [], M, _, _ => rfl
  | x :: W, M, hq, hn => by
    have l := putP_len M x
    have := puts_other W (putP M x) (by omega) (fun y hy => hn y (List.mem_cons_of_mem _ hy))
    rw [show putsP M (x :: W) = putsP (putP M x) W from rfl, this, putP_other hq (hn x (List.mem_cons_self ..))]
theorem putP_reach {M : List (List UInt8)} {x : Wr} (h0 : 0 ≤ x.1) (h1 : x.1 < 10000) : x.1 < ((putP M x).length : Int) := by
  have := putP_self (M := M) h0 h1
  unfold pageOf at this
  split at this
  · rename_i h; exact h.2
  · simp at this
theorem puts_self : ∀ (W : List Wr) (M : List (List UInt8)), (W.map (·.1)).Nodup → (∀ x ∈ W, 0 ≤ x.1 ∧ x.1 < 10000) → ∀ x ∈ W, pageOf (putsP M W) x.1 = (x.2, 0)
  | [], _, _, _, x, hx => by cases hx
  | y :: W, M, hn, hb, x, hx => by
    rw [List.map_cons, List.nodup_cons] at hn
    rw [show putsP M (y :: W) = putsP (putP M y) W from rfl]
    rcases List.mem_cons.1 hx with rfl | hx
    · obtain ⟨b1, b2⟩ := hb x (List.mem_cons_self ..)
      rw [puts_other W (putP M x) (putP_reach b1 b2) (fun z hz e => hn.1 (by rw [← e]; exact List.mem_map_of_mem hz)), putP_self b1 b2]
    · exact puts_self W (putP M y) hn.2 (fun z hz => hb z (List.mem_cons_of_mem _ hz)) x hx
theorem puts_lenK {K : Int} : ∀ (W : List Wr) (M : List (List UInt8)), (∀ x ∈ W, x.1 < K) → (M.length : Int) ≤ K → ((putsP M W).length : Int) ≤ K
  | [], M, _, h => h
  | x :: W, M, hb, h => by
    have hx := hb x (List.mem_cons_self ..)
    have l1 : ((growP M x.1).length : Int) ≤ K := by
      unfold growP
      split
      · simp; omega
      · exact h
    have l2 : ((putP M x).length : Int) ≤ K := by
      unfold putP
      split
      · rw [List.length_set]; exact l1
      · exact l1
    exact puts_lenK W (putP M x) (fun z hz => hb z (List.mem_cons_of_mem _ hz)) l2
theorem puts_mem2 (P : List UInt8 → Prop) (h0 : P []) : ∀ (l : List Wr), (∀ x ∈ l, P x.2) → ∀ (m : List (List UInt8)), (∀ s ∈ m, P s) → ∀ s ∈ putsP m l, P s
  | [], _, m, hm => hm
  | x :: l, hx, m, hm => puts_mem2 P h0 l (fun y hy => hx y (List.mem_cons_of_mem _ hy)) (putP m x) (putP_mem m x P hm h0 (hx x (List.mem_cons_self ..)))
/-- A page that is loaded is there. -/
theorem load_in {M : List (List UInt8)} {d : DS} {page level : Int} (h : (loadD M d page level).2 = 0) : 0 ≤ page ∧ page < (M.length : Int) := by
  unfold loadD at h
  split at h
  · rename_i h1; exact absurd h h1
  · rename_i h1
    unfold pageOf at h1
    split at h1
    · rename_i h2; exact h2
    · simp at h1
theorem sub_pages {M : List (List UInt8)} {d : DS} {mn : Nat} : ∀ {l : Nat} {page : Int} {it : List Itm} {pgs : List Int}, Sub M d mn l page it pgs → ∀ q ∈ pgs, 0 ≤ q ∧ q < (M.length : Int)
  | 0, _, _, _, ⟨_, h⟩, q, hq => by rw [h] at hq; cases hq
  | l + 1, page, it, pgs, ⟨h0, _, parts, hl, _, hp, hs⟩, q, hq => by
    rw [hp] at hq
    rcases List.mem_cons.1 hq with rfl | hq
    · exact load_in h0
    · obtain ⟨L, hL, hqL⟩ := List.mem_flatten.1 hq
      obtain ⟨x, hx, rfl⟩ := List.mem_map.1 hL
      obtain ⟨i, hi, rfl⟩ := List.mem_iff_getElem.1 hx
      have e : parts.getD i ([], []) = parts[i] := by simp [List.getD, hi]
      have := (hs i hi).1
      rw [e] at this
      exact sub_pages this q hqL
theorem idxP_first {pg : Int} : ∀ {L : List Ent} {k : Nat}, k < L.length → (entAt L k).2 = pg → (∀ j, j < k → (entAt L j).2 ≠ pg) → idxP pg L = some k
  | [], k, h, _, _ => by simp at h
  | x :: L, 0, _, h, _ => by
    have : x.2 = pg := h
    unfold idxP; rw [if_pos this]
  | x :: L, k + 1, hk, h, hj => by
    have h0 : x.2 ≠ pg := hj 0 (by omega)
    have := idxP_first (pg := pg) (L := L) (k := k) (by simpa using hk) h (fun j hjk => hj (j + 1) (by omega))
    unfold idxP; rw [if_neg h0, this]; rfl
theorem led_nodup {M : List (List UInt8)} {mn : Nat} {h : Hd} {d : DS} {key : List UInt8} {items : List Itm} {pgs : List Int} (hh : 0 ≤ h.height) (hs : Sub M d mn h.height.toNat h.root items pgs) (hp : pgs.Nodup) (hi : (items.map (·.2)).Nodup) :
    ∀ j, j ≤ h.height.toNat → ∃ seg pg', Sub M d mn (h.height.toNat - j) (pgAt M h d key j) seg pg' ∧ pg'.Nodup ∧ (seg.map (·.2)).Nodup
  | 0, _ => ⟨items, pgs, hs, hp, hi⟩
  | j + 1, hj => by
    obtain ⟨seg, pg', s, n1, n2⟩ := led_nodup hh hs hp hi j (by omega)
    obtain ⟨l, hl⟩ : ∃ l, h.height.toNat - j = l + 1 := ⟨h.height.toNat - j - 1, by omega⟩
    have hlev : h.height - (j : Int) = ((l + 1 : Nat) : Int) := by omega
    rw [hl] at s
    obtain ⟨h0, _, P, hK, rfl, rfl⟩ := sub_node s
    have hE : ndAt M h d key j = (loadD M d (pgAt M h d key j) ((l + 1 : Nat) : Int)).1 := by unfold ndAt; rw [hlev]
    have hk := findNd_lt (key := key) (load_spec h0).1.l1
    rw [show h.height.toNat - (j + 1) = l by omega, pgAt_succ, hE]
    have hkP : findNd (loadD M d (pgAt M h d key j) ((l + 1 : Nat) : Int)).1.ents key < P.length := by rw [hK.1]; exact hk
    refine ⟨_, _, (hK.2 _ hkP).1, ?_, ?_⟩
    · have := (List.nodup_cons.1 n1).2
      rw [pgs_split hkP, List.nodup_append, List.nodup_append] at this
      exact this.1.2.1
    · rw [its_split hkP, List.map_append, List.map_append, List.nodup_append, List.nodup_append] at n2
      exact n2.1.2.1
/-- On the way the next page is first found where the key is led. -/
theorem path_idx {M : List (List UInt8)} {mn : Nat} {h : Hd} {d : DS} {key : List UInt8} {items : List Itm} {pgs : List Int} (hh : 0 ≤ h.height) (hs : Sub M d mn h.height.toNat h.root items pgs) (hp : pgs.Nodup) (hi : (items.map (·.2)).Nodup) {j : Nat} (hj : j < h.height.toNat) :
    idxP (pgAt M h d key (j + 1)) (ndAt M h d key j).ents = some (findNd (ndAt M h d key j).ents key) ∧ 0 ≤ pgAt M h d key j ∧ pgAt M h d key j < (M.length : Int) := by
  obtain ⟨seg, pg', s, n1, n2⟩ := led_nodup (key := key) hh hs hp hi j (by omega)
  obtain ⟨l, hl⟩ : ∃ l, h.height.toNat - j = l + 1 := ⟨h.height.toNat - j - 1, by omega⟩
  have hlev : h.height - (j : Int) = ((l + 1 : Nat) : Int) := by omega
  rw [hl] at s
  obtain ⟨h0, _, P, hK, rfl, rfl⟩ := sub_node s
  have hE : ndAt M h d key j = (loadD M d (pgAt M h d key j) ((l + 1 : Nat) : Int)).1 := by unfold ndAt; rw [hlev]
  refine ⟨?_, load_in h0⟩
  have hk := findNd_lt (key := key) (load_spec h0).1.l1
  rw [pgAt_succ, hE]
  generalize (loadD M d (pgAt M h d key j) ((l + 1 : Nat) : Int)).1.ents = E at *
  generalize findNd E key = k at *
  have hkP : k < P.length := by rw [hK.1]; exact hk
  refine idxP_first hk rfl (fun i hik e => ?_)
  have hiP : i < P.length := by omega
  have si := (hK.2 i hiP).1
  have sk := (hK.2 k hkP).1
  cases l with
  | zero =>
    obtain ⟨⟨li, ei⟩, _⟩ := si
    obtain ⟨⟨lk, ek⟩, _⟩ := sk
    refine pgs_apart (P := P.map fun x => (x.1, x.1.map (·.2))) (i := k) (k := i) (q := (entAt E k).2) ?_ (by simpa using hkP) (by simpa using hiP) (by omega) ?_ ?_
    · have : pgsOf (P.map fun x : Part => (x.1, x.1.map (·.2))) = (itsOf P).map (·.2) := by
        unfold pgsOf itsOf
        rw [List.map_flatten, List.map_map, List.map_map]
        rfl
      rw [this]; exact n2
    · rw [getD_map (fun x : Part => (x.1, x.1.map (·.2))) P i ([], []) ([], []) rfl]
      simp only
      rw [ei, ← e]; simp
    · rw [getD_map (fun x : Part => (x.1, x.1.map (·.2))) P k ([], []) ([], []) rfl]
      simp only
      rw [ek]; simp
  | succ l =>
    obtain ⟨_, _, _, _, _, ei⟩ := sub_node si
    obtain ⟨_, _, _, _, _, ek⟩ := sub_node sk
    refine pgs_apart (P := P) (i := k) (k := i) (q := (entAt E k).2) (List.nodup_cons.1 n1).2 hkP hiP (by omega) ?_ ?_
    · rw [ei, ← e]; simp
    · rw [ek]; simp
/-- What add leaves of the header. -/
theorem addGo_head (d : DS) : ∀ (S : List Stp) (h : Hd) (out : List Wr) (b : List UInt8) (p : Int), (addGo d S h out b p).2.2 = 0 →
    out.length + 1 ≤ (addGo d S h out b p).2.1.length ∧ h.fin ≤ (addGo d S h out b p).1.fin ∧ (((addGo d S h out b p).1.root = h.root ∧ (addGo d S h out b p).1.height = h.height) ∨ ((addGo d S h out b p).1.root = (addGo d S h out b p).1.fin ∧ (addGo d S h out b p).1.height = h.height + 1))
  | [], h, out, b, p, h0 => by
    unfold addGo at h0 ⊢
    split at h0
    · cases h0
    · rename_i h1
      rw [if_neg h1]
      exact ⟨by simp, by simp only; omega, .inr ⟨rfl, rfl⟩⟩
  | s :: S, h, out, b, p, h0 => by
    unfold addGo at h0 ⊢
    simp only at h0 ⊢
    split at h0
    · rename_i h1; exact absurd h0 h1
    · rename_i h1
      rw [if_neg h1]
      split at h0
      · rename_i h2
        rw [if_pos h2]
        exact ⟨by simp, Int.le_refl _, .inl ⟨rfl, rfl⟩⟩
      · rename_i h2
        rw [if_neg h2]
        split at h0
        · rename_i h3; exact absurd h0 h3
        · rename_i h3
          rw [if_neg h3]
          split at h0
          · rename_i h4; exact absurd h0 h4
          · rename_i h4
            rw [if_neg h4]
            split at h0
            · rename_i h5; exact absurd h0 h5
            · rename_i h5
              rw [if_neg h5]
              obtain ⟨a1, a2, a3⟩ := addGo_head d S _ _ _ _ h0
              simp only [List.length_append, List.length_cons, List.length_nil] at a1 a2 a3
              exact ⟨by omega, by omega, a3⟩
theorem insIt_perm (b : List UInt8) (base : Int) : ∀ (L : List Itm), (insIt b base L).Perm ((b, base) :: L)
  | [] => List.Perm.refl _
  | x :: L => by
    simp only [insIt]
    split
    · exact List.Perm.refl _
    · exact ((insIt_perm b base L).cons x).trans (List.Perm.swap _ _ _)
theorem insIt_cut {b : List UInt8} {base : Int} : ∀ {L : List Itm} {j : Nat}, j ≤ L.length → (∀ i, i < j → bl b (L.getD i ([], 0)).1 = false) → (j < L.length → bl b (L.getD j ([], 0)).1 = true) → insIt b base L = L.take j ++ (b, base) :: L.drop j
  | [], j, hj, _, _ => by
    obtain rfl : j = 0 := by simpa using hj
    rfl
  | x :: L, 0, _, _, h => by
    have h1 : bl b x.1 = true := h (by simp)
    simp only [insIt, h1, if_true]
    rfl
  | x :: L, j + 1, hj, hp, h => by
    have h1 : bl b x.1 = false := hp 0 (by omega)
    have := insIt_cut (b := b) (base := base) (L := L) (j := j) (by simpa using hj) (fun i hi => hp (i + 1) (by omega)) (fun hl => h (by simpa using hl))
    simp only [insIt, h1, this]
    rfl
/-- A list of areas, and its tree, behind so many additions. -/
structure Gr (d : DS) (k : Nat) (M : List (List UInt8)) (h : Hd) (items : List Itm) (pgs : List Int) : Prop where
  tree : Tree M d h items pgs
  root : 1 ≤ h.root ∧ h.root ≤ h.fin
  fin : 1 ≤ h.fin ∧ h.fin ≤ 9 + 16 * k
  bases : (items.map (·.2)).Nodup
  baseB : ∀ x ∈ items, 1 ≤ x.2 ∧ x.2 ≤ h.fin
  len : items.length ≤ k + 1
  mlen : (M.length : Int) ≤ h.fin + 1
  mem : ∀ s ∈ M, s.length ≤ 512
def startH (d : DS) : Hd := ⟨0, 0, 1 + d.area, 1, 0, 0, 1⟩
theorem gr_start {d : DS} (hk : keyedB d = true) : Gr d 0 [[]] (startH d) [([], 1)] [] := by
  obtain ⟨_, _, _, _, _, _, _, a1, a2⟩ := keyed_spec hk
  refine ⟨⟨hk, Int.le_refl _, ⟨⟨[], rfl⟩, rfl⟩, List.pairwise_singleton _ _, rfl, ?_, List.nodup_nil, fun q hq => by cases hq⟩, ?_, ?_, by simp, ?_, by simp, ?_, by simp⟩
  · intro x hx
    obtain ⟨_, k2, _, _⟩ := keyed_nums hk
    simp at hx; subst hx; simp; omega
  · simp only [startH]; omega
  · simp only [startH]; omega
  · intro x hx
    simp at hx; subst hx
    simp only [startH]; omega
  · simp only [startH]; simp; omega
theorem Gr.h5 {d : DS} {k : Nat} {M : List (List UInt8)} {h : Hd} {items : List Itm} {pgs : List Int} (G : Gr d k M h items pgs) (hk : k ≤ 60) : h.height ≤ 5 := by
  have h1 := sub_many G.tree.sub
  have h2 := G.len
  by_cases h3 : 6 ≤ h.height.toNat
  · have := Nat.pow_le_pow_right (show 0 < 2 by decide) h3
    omega
  · have := G.tree.h0; omega
theorem Gr.small {d : DS} {k : Nat} {M : List (List UInt8)} {h : Hd} {items : List Itm} {pgs : List Int} (G : Gr d k M h items pgs) (hk : k ≤ 60) : Small M := by
  have h1 := G.mlen
  have h2 := G.fin
  exact ⟨by omega, fun s hs => by have := G.mem s hs; omega⟩
theorem Gr.door {d : DS} {k : Nat} {M : List (List UInt8)} {h : Hd} {items : List Itm} {pgs : List Int} (G : Gr d k M h items pgs) (hk : k ≤ 60) : door22 h d = 0 := by
  have h5 := G.h5 hk
  have h0 := G.tree.h0
  have h1 := G.root
  have h2 := G.fin
  unfold door22
  rw [if_pos]
  simp only [Bool.and_eq_true, decide_eq_true_eq]
  have := G.tree.keyed
  refine ⟨⟨⟨⟨⟨⟨this, ?_⟩, ?_⟩, ?_⟩, ?_⟩, ?_⟩, ?_⟩ <;> omega
theorem gr_step {d : DS} {k : Nat} {M : List (List UInt8)} {h : Hd} {items : List Itm} {pgs : List Int} (G : Gr d k M h items pgs) (hk : k < 60) {b : List UInt8} (hb : bl (lowTo M h d b h.height.toNat) b = true) (hbK : (b.length : Int) ≤ d.keyLength) :
    ∃ (W : List Wr) (g' : Hd), addGo d (stepsTo M h d b h.height.toNat) { h with fin := h.fin + 1 + d.area } [] b (h.fin + 1) = (g', W, 0) ∧ 1 ≤ W.length ∧ W.length ≤ 2 * h.height.toNat + 1 ∧ (W.map (·.1)).Nodup ∧ g'.fin - (h.fin + 1 + d.area) ≤ h.height + 1 ∧
      (∀ x ∈ W, 0 ≤ x.1 ∧ x.1 ≤ g'.fin ∧ (x.2.length : Int) = d.interval ∧ ((∃ j, j < h.height.toNat ∧ x.1 = pgAt M h d b j) ∨ h.fin + 1 + d.area < x.1)) ∧ b ≠ [] ∧ (∀ x ∈ items, x.1 ≠ b) ∧ g'.fin ≤ 9 + 16 * ((k + 1 : Nat) : Int) ∧
      ∀ L', L'.Perm W → ∃ pgs', Gr d (k + 1) (putsP M L') g' (insIt b (h.fin + 1) items) pgs' := by
  have T := G.tree
  have h5 := G.h5 (by omega)
  have h0 := T.h0
  obtain ⟨hr1, hr2⟩ := G.root
  obtain ⟨hf1, hf2⟩ := G.fin
  obtain ⟨_, _, _, _, _, _, _, a1, a2⟩ := keyed_spec T.keyed
  obtain ⟨_, _, _, hsz⟩ := keyed_nums T.keyed
  have hb0 : b ≠ [] := fun e => by rw [e, bl_nil] at hb; cases hb
  have hbn : ∀ x ∈ items, x.1 ≠ b := by
    obtain ⟨_, pre, post, low, base0, hi, _, hlo, _, _, hk2⟩ := led_end (key := b) h0 T.srt T.sub T.low0
    rw [hlo] at hb
    intro x hx e
    have hs := T.srt
    rw [hi] at hx hs
    rcases List.mem_append.1 hx with hx | hx
    · have := srt_mem hs hx (y := (low, base0)) (List.mem_cons_self ..)
      exact bl_ne (bl_trans this hb) e
    · rcases List.mem_cons.1 hx with rfl | hx
      · exact bl_ne hb e
      · have hp : post ≠ [] := fun e2 => by rw [e2] at hx; cases hx
        have h2 := hk2 hp
        cases post with
        | nil => exact hp rfl
        | cons y ys =>
          rw [lowOf_cons] at h2
          rcases List.mem_cons.1 hx with rfl | hx
          · exact bl_ne h2 e.symm
          · have h3 := (List.pairwise_cons.1 (List.pairwise_cons.1 (List.pairwise_append.1 hs).2.1).2).1 x hx
            exact bl_ne (bl_trans h2 h3) e.symm
  obtain ⟨W, g', A⟩ := add_tree (b := b) (g := { h with fin := h.fin + 1 + d.area }) (base := h.fin + 1) T rfl rfl (by simp only; omega) h5 hb0 hbK hbn (by unfold pageB; simp; omega) (by simp only; omega) (by simp only; omega) (by unfold pageB; simp; omega)
  have hh := addGo_head d (stepsTo M h d b h.height.toNat) { h with fin := h.fin + 1 + d.area } [] b (h.fin + 1) (by rw [A.go])
  rw [A.go] at hh
  obtain ⟨g1, g2, g3⟩ := hh
  have f2 := A.fin2
  simp only at f2 g1 g2 g3
  have hpg : ∀ x ∈ W, 0 ≤ x.1 ∧ x.1 ≤ g'.fin ∧ (x.2.length : Int) = d.interval ∧ ((∃ j, j < h.height.toNat ∧ x.1 = pgAt M h d b j) ∨ h.fin + 1 + d.area < x.1) := fun x hx => by
    have hl := A.ok.len x hx
    have hm := G.mlen
    rcases A.ok.pages x hx with ⟨j, _, hj, e⟩ | ⟨c1, c2⟩
    · obtain ⟨_, p1, p2⟩ := path_idx (key := b) h0 T.sub T.nodup G.bases hj
      rw [← e] at p1 p2
      exact ⟨p1, by omega, hl, .inl ⟨j, hj, e⟩⟩
    · simp only at c1
      exact ⟨by omega, c2, hl, .inr c1⟩
  refine ⟨W, g', A.go, by simpa using g1, A.len, A.ok.nodup, by omega, hpg, hb0, hbn, by omega, fun L' hP => ?_⟩
  have hnd : (L'.map (·.1)).Nodup := (hP.map _).nodup_iff.2 A.ok.nodup
  have hb' : ∀ x ∈ L', 0 ≤ x.1 ∧ x.1 < 10000 := fun x hx => by
    obtain ⟨p1, p2, _⟩ := hpg x (hP.mem_iff.1 hx)
    omega
  obtain ⟨pgs', T'⟩ := A.tree (putsP M L') ⟨fun x hx => puts_self L' M hnd hb' x (hP.mem_iff.2 hx), fun q hq hne => puts_other L' M (sub_pages T.sub q hq).2 (fun x hx => hne x (hP.mem_iff.1 hx))⟩
  have hpm := insIt_perm b (h.fin + 1) items
  refine ⟨pgs', T', ?_, ?_, ?_, ?_, ?_, ?_, ?_⟩
  · rcases g3 with ⟨e1, _⟩ | ⟨e1, _⟩
    · rw [e1]; constructor <;> omega
    · rw [e1]; omega
  · omega
  · refine (hpm.map _).nodup_iff.2 ?_
    rw [List.map_cons, List.nodup_cons]
    refine ⟨fun hx => ?_, G.bases⟩
    obtain ⟨x, hx, e⟩ := List.mem_map.1 hx
    have := (G.baseB x hx).2
    simp only at e; omega
  · intro x hx
    rcases insIt_mem.1 hx with rfl | hx
    · show 1 ≤ h.fin + 1 ∧ h.fin + 1 ≤ g'.fin
      omega
    · have := G.baseB x hx; omega
  · have := hpm.length_eq
    rw [List.length_cons] at this
    have := G.len
    omega
  · exact puts_lenK L' M (fun x hx => by have := (hpg x (hP.mem_iff.1 hx)).2.1; omega) (by have := G.mlen; omega)
  · refine puts_mem2 (fun s => s.length ≤ 512) (by simp) L' (fun x hx => ?_) M G.mem
    have := (hpg x (hP.mem_iff.1 hx)).2.2.1
    omega
end Dsd
/- All pages of a growing tree hold nodes of at least two entries. No program in sight. -/
namespace Dsd
open Go.Proofs.Ytolmoknjmdmpgaa (encNE encNS)
/-- A page that holds a node. -/
def NdOK (d : DS) (lv : Int) (s : List UInt8) : Prop := ∃ nd : Nd, s = encNS d.interval nd ∧ encNE d.interval nd = 0 ∧ 1 ≤ nd.level ∧ nd.level ≤ lv ∧ 2 ≤ nd.ents.length
theorem NdOK.mono {d : DS} {lv lv' : Int} {s : List UInt8} (h : NdOK d lv s) (hl : lv ≤ lv') : NdOK d lv' s := by
  obtain ⟨nd, h1, h2, h3, h4, h5⟩ := h
  exact ⟨nd, h1, h2, h3, by omega, h5⟩
theorem few_fit {size : Int} {n : Nd} (h1 : isSizeB size = true) (h2 : nodeB n = true) (h3 : nodeFits size n = false) : 4 ≤ n.ents.length := by
  rw [fits_iff h1 h2, decide_eq_false_iff_not] at h3
  have hv : NSpec n := node_iff.1 h2
  have hsize : size = 128 ∨ size = 256 ∨ size = 512 := by unfold isSizeB at h1; simp at h1; omega
  have := entsN_le n.ents [] 32 (fun x hx => by
    obtain ⟨i, hi, rfl⟩ := List.mem_iff_getElem.1 hx
    have := (ents_at hv hi).2
    have e : entAt n.ents i = n.ents[i] := by simp [entAt, List.getD, hi]
    rwa [e] at this)
  omega
theorem ins_ok {n : Nd} {i : Int} {b : List UInt8} {p : Int} (h : (insertNd n i b p).2 = 0) : (insertNd n i b p).1.level = n.level ∧ (insertNd n i b p).1.ents.length = n.ents.length + 1 := by
  unfold insertNd at h ⊢
  split at h
  · cases h
  · rename_i h1
    rw [if_neg h1]
    split at h
    · cases h
    · rename_i h2
      rw [if_neg h2]
      split at h
      · cases h
      · rename_i h3
        rw [if_neg h3]
        simp only [not_or] at h1
        obtain ⟨_, _, g1, g2⟩ := h1
        exact ⟨rfl, splE_len (by omega) _ _⟩
theorem spl_ok {n : Nd} (h : (splitNd n).2.2.2 = 0) : nodeB n = true ∧ (splitNd n).1.level = n.level ∧ (splitNd n).2.1.level = n.level ∧ (splitNd n).1.ents.length = min ((n.ents.length + 1) / 2) n.ents.length ∧ (splitNd n).2.1.ents.length = n.ents.length - (n.ents.length + 1) / 2 := by
  unfold splitNd at h ⊢
  split at h
  · cases h
  · rename_i h1
    rw [if_neg h1]
    split at h
    · cases h
    · rename_i h2
      rw [if_neg h2]
      exact ⟨by simpa using h1, rfl, rfl, by simp only; rw [clrL_len, List.length_take], by simp only; rw [List.length_drop]⟩
theorem addGo_nodes {d : DS} (hs : isSizeB d.interval = true) : ∀ (S : List Stp) (h : Hd) (out : List Wr) (b : List UInt8) (p : Int), (addGo d S h out b p).2.2 = 0 → 0 ≤ h.height → (∀ s ∈ S, 1 ≤ s.2.2.level ∧ s.2.2.level ≤ h.height ∧ 2 ≤ s.2.2.ents.length) → (∀ x ∈ out, NdOK d h.height x.2) →
    ∀ x ∈ (addGo d S h out b p).2.1, NdOK d (addGo d S h out b p).1.height x.2
  | [], h, out, b, p, h0, hh, _, ho => by
    unfold addGo at h0 ⊢
    split at h0
    · cases h0
    · rename_i h1
      rw [if_neg h1]
      intro x hx
      rcases List.mem_append.1 hx with hx | hx
      · exact (ho x hx).mono (by simp only; omega)
      · simp only [List.mem_singleton] at hx
        subst hx
        exact ⟨rootN h b p, rfl, h0, by simp only [rootN]; omega, by simp only [rootN]; omega, by simp [rootN]⟩
  | s :: S, h, out, b, p, h0, hh, hS, ho => by
    obtain ⟨l1, l2, l3⟩ := hS s (List.mem_cons_self ..)
    unfold addGo at h0 ⊢
    simp only at h0 ⊢
    split at h0
    · rename_i h1; exact absurd h0 h1
    · rename_i h1
      rw [if_neg h1]
      have h1 : (insertNd s.2.2 (s.2.1 : Int) b p).2 = 0 := Classical.byContradiction h1
      obtain ⟨i1, i2⟩ := ins_ok h1
      split at h0
      · rename_i h2
        rw [if_pos h2]
        intro x hx
        rcases List.mem_append.1 hx with hx | hx
        · exact ho x hx
        · simp only [List.mem_singleton] at hx
          subst hx
          exact ⟨_, rfl, h0, by rw [i1]; omega, by rw [i1]; exact l2, by omega⟩
      · rename_i h2
        rw [if_neg h2]
        split at h0
        · rename_i h3; exact absurd h0 h3
        · rename_i h3
          rw [if_neg h3]
          have h3 : (splitNd (insertNd s.2.2 (s.2.1 : Int) b p).1).2.2.2 = 0 := Classical.byContradiction h3
          obtain ⟨s1, s2, s3, s4, s5⟩ := spl_ok h3
          have h4 := few_fit hs s1 (by simpa using h2)
          split at h0
          · rename_i h5; exact absurd h0 h5
          · rename_i h5
            rw [if_neg h5]
            split at h0
            · rename_i h6; exact absurd h0 h6
            · rename_i h6
              rw [if_neg h6]
              refine addGo_nodes hs S _ _ _ _ h0 hh (fun y hy => hS y (List.mem_cons_of_mem _ hy)) (fun x hx => ?_)
              rcases List.mem_append.1 hx with hx | hx
              · exact ho x hx
              · simp only [List.mem_cons, List.not_mem_nil, or_false] at hx
                rcases hx with rfl | rfl
                · exact ⟨_, rfl, Classical.byContradiction h5, by simp only; rw [s2, i1]; exact l1, by simp only; rw [s2, i1]; exact l2, by simp only; rw [s4]; omega⟩
                · exact ⟨_, rfl, Classical.byContradiction h6, by rw [s3, i1]; exact l1, by rw [s3, i1]; exact l2, by rw [s5]; omega⟩
/-- All pages but the first hold such nodes, or nothing. -/
def Full (d : DS) (M : List (List UInt8)) (lv : Int) : Prop := ∀ i, 0 < i → M.getD i [] ≠ [] → NdOK d lv (M.getD i [])
theorem putP_at (M : List (List UInt8)) (x : Wr) (i : Nat) : (x.1 = (i : Int) ∧ (putP M x).getD i [] = x.2) ∨ (putP M x).getD i [] = M.getD i [] := by
  have hg : ∀ i, (growP M x.1).getD i [] = M.getD i [] := fun i => by
    unfold growP
    split
    · by_cases hi : i < M.length
      · simp [List.getD, List.getElem?_append_left hi]
      · rw [List.getD, List.getElem?_append_right (by omega), List.getD, List.getElem?_eq_none (l := M) (by omega)]
        cases h : (List.replicate (x.1 + 1 - (M.length : Int)).toNat ([] : List UInt8))[i - M.length]? with
        | none => rfl
        | some v =>
          have := List.mem_of_getElem? h
          rw [(List.mem_replicate.1 this).2]; rfl
    · rfl
  unfold putP
  split
  · rename_i h
    rw [getD_set _ _ _ _ _ (by omega)]
    by_cases e : i = x.1.toNat
    · rw [if_pos e]; exact .inl ⟨by omega, rfl⟩
    · rw [if_neg e, hg]; exact .inr rfl
  · rw [hg]; exact .inr rfl
theorem puts_at : ∀ (W : List Wr) (M : List (List UInt8)) (i : Nat), (∃ x ∈ W, x.1 = (i : Int) ∧ (putsP M W).getD i [] = x.2) ∨ (putsP M W).getD i [] = M.getD i []
  | [], M, i => .inr rfl
  | x :: W, M, i => by
    rw [show putsP M (x :: W) = putsP (putP M x) W from rfl]
    rcases puts_at W (putP M x) i with ⟨y, hy, h1, h2⟩ | h
    · exact .inl ⟨y, List.mem_cons_of_mem _ hy, h1, h2⟩
    · rcases putP_at M x i with ⟨h1, h2⟩ | h2
      · exact .inl ⟨x, List.mem_cons_self .., h1, by rw [h, h2]⟩
      · exact .inr (by rw [h, h2])
theorem Full.puts {d : DS} {M : List (List UInt8)} {lv lv' : Int} (h : Full d M lv) (hl : lv ≤ lv') {W : List Wr} (hW : ∀ x ∈ W, NdOK d lv' x.2) : Full d (putsP M W) lv' := by
  intro i hi hne
  rcases puts_at W M i with ⟨x, hx, _, h2⟩ | h2
  · rw [h2]; exact hW x hx
  · rw [h2] at hne ⊢
    exact (h i hi hne).mono hl
theorem full_start (d : DS) : Full d [[]] 0 := by
  intro i hi hne
  refine absurd ?_ hne
  match i, hi with
  | i + 1, _ => simp [List.getD]
theorem stepsTo_mem {M : List (List UInt8)} {h : Hd} {d : DS} {key : List UInt8} {s : Stp} : ∀ {H : Nat}, s ∈ stepsTo M h d key H → ∃ j, j < H ∧ s = stpAt M h d key j
  | 0, hs => by cases hs
  | H + 1, hs => by
    rcases List.mem_cons.1 hs with rfl | hs
    · exact ⟨H, by omega, rfl⟩
    · obtain ⟨j, hj, e⟩ := stepsTo_mem hs
      exact ⟨j, by omega, e⟩
theorem Gr.steps {d : DS} {k : Nat} {M : List (List UInt8)} {h : Hd} {items : List Itm} {pgs : List Int} (G : Gr d k M h items pgs) (b : List UInt8) : ∀ s ∈ stepsTo M h d b h.height.toNat, 1 ≤ s.2.2.level ∧ s.2.2.level ≤ h.height ∧ 2 ≤ s.2.2.ents.length := by
  intro s hs
  obtain ⟨j, hj, rfl⟩ := stepsTo_mem hs
  have hh := G.tree.h0
  obtain ⟨seg, pg', s, _, _⟩ := led_nodup (key := b) hh G.tree.sub G.tree.nodup G.bases j (by omega)
  obtain ⟨l, hl⟩ : ∃ l, h.height.toNat - j = l + 1 := ⟨h.height.toNat - j - 1, by omega⟩
  have hlev : h.height - (j : Int) = ((l + 1 : Nat) : Int) := by omega
  rw [hl] at s
  obtain ⟨h0, hm, _⟩ := sub_node s
  have e := (load_spec h0).2
  unfold stpAt ndAt
  simp only
  rw [hlev, e]
  exact ⟨by omega, by omega, hm⟩
/-- The state of the law's 'grow'. -/
def GrF (d : DS) (k : Nat) (M : List (List UInt8)) (h : Hd) (items : List Itm) : Prop := (∃ pgs, Gr d k M h items pgs) ∧ Full d M h.height
theorem grf_start {d : DS} (hk : keyedB d = true) : GrF d 0 [[]] (startH d) [([], 1)] := ⟨⟨[], gr_start hk⟩, full_start d⟩
theorem grf_more {d : DS} {k : Nat} {M : List (List UInt8)} {h : Hd} {items : List Itm} (G : GrF d k M h items) : GrF d (k + 1) M h items := by
  obtain ⟨⟨pgs, G⟩, F⟩ := G
  exact ⟨⟨pgs, G.tree, G.root, ⟨G.fin.1, by have := G.fin.2; omega⟩, G.bases, G.baseB, by have := G.len; omega, G.mlen, G.mem⟩, F⟩
theorem grf_step {d : DS} {k : Nat} {M : List (List UInt8)} {h : Hd} {items : List Itm} (G : GrF d k M h items) (hk : k < 60) {b : List UInt8} (hb : bl (lowTo M h d b h.height.toNat) b = true) (hbK : (b.length : Int) ≤ d.keyLength) :
    ∃ (W : List Wr) (g' : Hd), addGo d (stepsTo M h d b h.height.toNat) { h with fin := h.fin + 1 + d.area } [] b (h.fin + 1) = (g', W, 0) ∧ 1 ≤ W.length ∧ W.length ≤ 2 * h.height.toNat + 1 ∧ (W.map (·.1)).Nodup ∧ g'.fin - (h.fin + 1 + d.area) ≤ h.height + 1 ∧
      (∀ x ∈ W, 0 ≤ x.1 ∧ x.1 ≤ g'.fin ∧ (x.2.length : Int) = d.interval ∧ ((∃ j, j < h.height.toNat ∧ x.1 = pgAt M h d b j) ∨ h.fin + 1 + d.area < x.1)) ∧ b ≠ [] ∧ (∀ x ∈ items, x.1 ≠ b) ∧ h.fin + 1 + d.area ≤ g'.fin ∧ g'.fin ≤ 9 + 16 * ((k + 1 : Nat) : Int) ∧
      ∀ L', L'.Perm W → GrF d (k + 1) (putsP M L') g' (insIt b (h.fin + 1) items) := by
  obtain ⟨⟨pgs, G⟩, F⟩ := G
  obtain ⟨W, g', a1, a2, a3, a4, a5, a6, a7, a8, a9, a10⟩ := gr_step G hk hb hbK
  have hh := addGo_head d (stepsTo M h d b h.height.toNat) { h with fin := h.fin + 1 + d.area } [] b (h.fin + 1) (by rw [a1])
  have hn := addGo_nodes (keyed_nums G.tree.keyed).1 (stepsTo M h d b h.height.toNat) { h with fin := h.fin + 1 + d.area } [] b (h.fin + 1) (by rw [a1]) G.tree.h0 (G.steps b) (fun x hx => by cases hx)
  rw [a1] at hh hn
  obtain ⟨_, g2, g3⟩ := hh
  simp only at g2 g3 hn
  refine ⟨W, g', a1, a2, a3, a4, a5, a6, a7, a8, g2, a9, fun L' hP => ⟨a10 L' hP, F.puts (by omega) (fun x hx => hn x (hP.mem_iff.1 hx))⟩⟩
end Dsd
/- The walk of the law's 'leads': a key is led as a sorted list says. -/
namespace Dsd
/-- What the law makes of its list: the area, its bound, the next bound. -/
def ldS (key : List UInt8) (s : Int × List UInt8 × List UInt8) (x : Itm) : Int × List UInt8 × List UInt8 :=
  if bl key x.1 = false then (x.2, x.1, s.2.2) else if s.2.2 = [] then (s.1, s.2.1, x.1) else s
theorem ld_low {key : List UInt8} : ∀ (L : List Itm) (s : Int × List UInt8 × List UInt8), (∀ x ∈ L, bl key x.1 = false) → s.2.2 = [] → (L.foldl (ldS key) s).2.2 = []
  | [], s, _, h => h
  | x :: L, s, h, h0 => by
    rw [List.foldl_cons]
    refine ld_low L _ (fun y hy => h y (List.mem_cons_of_mem _ hy)) ?_
    unfold ldS
    rw [if_pos (h x (List.mem_cons_self ..))]
    exact h0
theorem ld_high {key : List UInt8} : ∀ (L : List Itm) (s : Int × List UInt8 × List UInt8), (∀ x ∈ L, bl key x.1 = true) → s.2.2 ≠ [] → L.foldl (ldS key) s = s
  | [], s, _, _ => rfl
  | x :: L, s, h, h0 => by
    have e : ldS key s x = s := by
      unfold ldS
      rw [if_neg (by rw [h x (List.mem_cons_self ..)]; simp), if_neg h0]
    rw [List.foldl_cons, e]
    exact ld_high L s (fun y hy => h y (List.mem_cons_of_mem _ hy)) h0
theorem ld_all {key : List UInt8} {pre post : List Itm} {low : List UInt8} {base : Int} (hs : Srt (pre ++ (low, base) :: post)) (h1 : bl key low = false) (h2 : post ≠ [] → bl key (lowOf post) = true) :
    (pre ++ (low, base) :: post).foldl (ldS key) (0, [], []) = (base, low, lowOf post) := by
  have hp : (pre.foldl (ldS key) (0, [], [])).2.2 = [] := ld_low pre _ (fun x hx => by
    have := srt_mem hs hx (y := (low, base)) (List.mem_cons_self ..)
    cases hk : bl key x.1 with
    | false => rfl
    | true => rw [bl_trans hk this] at h1; cases h1) rfl
  rw [List.foldl_append, List.foldl_cons]
  generalize pre.foldl (ldS key) (0, [], []) = s at hp
  have e : ldS key s (low, base) = (base, low, []) := by unfold ldS; rw [if_pos h1, hp]
  rw [e]
  cases post with
  | nil => rfl
  | cons y ys =>
    have hy := h2 (by simp)
    rw [lowOf_cons] at hy ⊢
    have hy0 : y.1 ≠ [] := fun e2 => by rw [e2, bl_nil] at hy; cases hy
    have e3 : ldS key (base, low, []) y = (base, low, y.1) := by
      unfold ldS
      rw [if_neg (by rw [hy]; simp), if_pos rfl]
    rw [List.foldl_cons, e3]
    refine ld_high ys _ (fun x hx => ?_) hy0
    have h3 := (List.pairwise_cons.1 (List.pairwise_cons.1 (List.pairwise_append.1 hs).2.1).2).1 x hx
    exact bl_trans hy h3
theorem ld_step {key : List UInt8} {L : List Itm} {k : Nat} (hk : k < L.length) (s : Int × List UInt8 × List UInt8) : (L.take (k + 1)).foldl (ldS key) s = ldS key ((L.take k).foldl (ldS key) s) (entAt L k) := by
  rw [List.take_succ_eq_append_getElem hk, List.foldl_append]
  have e : entAt L k = L[k] := by simp [entAt, List.getD, hk]
  rw [e]; rfl
end Dsd
namespace Go.Proofs.Ytolmoknjmdmpgaa
open Go.RowKit Dsd
theorem itSize : (Try.prog.info? 49).map (·.size) = some 2 := by kernel_rfl
set_option maxRecDepth 100000 in
set_option maxHeartbeats 4000000 in
theorem leads_any (p : Option Addr) (cap n : Nat) (m : List (List UInt8)) (h : Hd) (d : DS) (items : List Itm) (pgs : List Int) (mn : Nat) (key : List UInt8) (qi : Option Addr) (ci : Nat) (w : World) (hs : Strs w p m) (hn : m.length = n) (hm : Small m) (hit : Nents w qi items) (hil : items.length ≤ 1000000) (hz : door22 h d = 0)
    (hsub : Sub m d mn h.height.toNat h.root items pgs) (hsrt : Srt items) (hl0 : lowOf items = []) :
    Calls Try.prog 8 #[.slice p n cap, .agg #[.int .i64 h.applied, .int .i64 h.count, .int .i64 h.fin, .int .i64 h.root, .int .i64 h.height, .int .i64 h.splits, .int .i64 h.areas], .agg #[.int .i64 d.id, .int .i64 d.org, .int .i64 d.format, .int .i64 d.length, .int .i64 d.block, .int .i64 d.keyAt, .int .i64 d.keyLength, .int .i64 d.interval, .int .i64 d.area, .int .i64 d.freeInterval, .int .i64 d.freeArea, .int .i64 d.base, .int .i64 d.altAt, .int .i64 d.altLength, .bool d.unique, .int .i64 d.cls, .string ⟨d.volume.toArray⟩, .string ⟨d.owner.toArray⟩, .int .i64 d.created, .int .i64 d.expires, .bool d.archived], .slice qi items.length ci, .string ⟨key.toArray⟩] w fun e w' => e = .returned (.bool true) ∧ Ext w w' := by
  have hdd := hd_ds w h d
  obtain ⟨k1, k2, k3, k4, k5, k6, k7⟩ := door22_zero hz
  obtain ⟨her, pre, post, low, base, hi, hpg, hlo, hhi, hb1, hb2⟩ := led_end (key := key) k4 hsrt hsub hl0
  have hfold : items.foldl (ldS key) (0, [], []) = (base, low, lowOf post) := by
    rw [hi] at hsrt ⊢
    exact ld_all hsrt hb1 hb2
  have hlE : locE m h d key = 0 := by unfold locE; rw [if_neg (by rw [hz]; simp)]; exact her
  have hlL : locL m h d key = pathTo m h d key h.height.toNat := by unfold locL; rw [if_pos hlE]
  have hlD : lowD m h d key = low := by unfold lowD; rw [if_pos hlE]; exact hlo
  have hhD : highD m h d key = lowOf post := by unfold highD; rw [if_pos hlE]; exact hhi
  have hlen : (locL m h d key).length = h.height.toNat + 1 := by rw [hlL, pathTo_len]
  have hlast : (locL m h d key).getD h.height.toNat 0 = base := by rw [hlL, pathTo_at _ _ _ _ _ (Nat.le_refl _)]; exact hpg
  have HL1 := Lib.hid (fun W (hh : Strs W p m) => Locate22_any p cap n m h d key W hh hn hm)
  have HB1 := Lib.hid (fun W (hh : Strs W p m) => Bounds22_any p cap n m h d key W hh hn hm)
  unfold LocOut at HL1
  unfold BndOut at HB1
  rw [hlE] at HL1 HB1
  rw [hlD, hhD] at HB1
  have Hs := Lib.hid hs
  have Hit := Lib.hid hit
  have HF := Lib.hid hfold
  obtain ⟨H, hH⟩ : ∃ H : Nat, h.height.toNat = H := ⟨_, rfl⟩
  rw [hH] at hlen hlast
  have hH6 : H ≤ 6 := by omega
  clear hs hit hsub hsrt hl0 hz k1 k2 k3 k4 k5 k6 k7 her hi hpg hlo hhi hb1 hb2 hfold hlE hlL hlD hhD hH hm hn
  generalize lowOf post = high at *
  generalize locL m h d key = LL at *
  have hlen1 : LL.length ≤ 7 := by omega
  obtain ⟨n1, hn1⟩ : ∃ n1, n1 = LL.length := ⟨_, rfl⟩
  rw [← hn1] at HL1 hlen
  have hw1 : IntKind.i64.wrap (((n1 : Nat) : Int) - 1) = ((H : Nat) : Int) := by rw [IntWalk.i64_in _ (by omega)]; omega
  have hgt : (0 : Int) < ((n1 : Nat) : Int) := by omega
  have hgtN : 0 < n1 := by omega
  have hHI : ((H : Nat) : Int) < ((n1 : Nat) : Int) := by omega
  have hHN : H < n1 := by omega
  have Hn1 := Lib.hid (And.intro hn1 (And.intro hlen hlast))
  clear hn1 hlen hlast hlen1
  go_enter Try.func8, Try.ntmps8
  go_upto_region 1 with (fail)
  refine wp_name (fun w0 => Ext w w0 ∧ HdAt w0 w.heap.size h ∧ DsAt w0 (w.heap.size + 1) d) hdd ?_
  clear hdd
  rintro w0 ⟨he0, hb1, hb2⟩
  have HX0 := Lib.hid (And.intro he0 (And.intro hb1 hb2))
  clear he0 hb1 hb2
  go_upto_region 3 with (fail)
  go_loopw [23, 11, 12, 13] (fun i wa lo hi wr => ∃ k : Nat, k ≤ items.length ∧ i = .int .i64 k ∧ wa = .int .i64 ((items.take k).foldl (ldS key) (0, [], [])).1 ∧ lo = .string ⟨((items.take k).foldl (ldS key) (0, [], [])).2.1.toArray⟩ ∧ hi = .string ⟨((items.take k).foldl (ldS key) (0, [], [])).2.2.toArray⟩ ∧ Ext w0 wr) (fun i _ _ _ _ => items.length - (intOf i).toNat)
  case atStart => exact ⟨0, Nat.zero_le _, rfl, rfl, rfl, rfl, Ext.refl _⟩
  case round =>
    obtain ⟨k, hk, rfl, rfl, rfl, rfl, hext⟩ := hrel
    by_cases hlt : k < items.length
    · have hltI : (k : Int) < items.length := by omega
      obtain ⟨g, off, rfl, hgl, hcc⟩ := ((Hit.out.ext HX0.out.1).ext hext).at k hlt
      obtain ⟨hc0, hc1⟩ := hcc k hlt
      have HSt := Lib.hid (ld_step (key := key) hlt (0, [], []))
      have Hex := Lib.hid hext
      clear hcc
      generalize (items.take k).foldl (ldS key) (0, [], []) = s at *
      generalize entAt items k = x at *
      obtain ⟨sb, pg⟩ := x
      obtain ⟨s1, s2, s3⟩ := s
      simp only at hc0 hc1 HSt
      go_upto_region 5 with (refine wpList_put rfl 49 (.tmp 15) (.tmp 26) rfl _ #[.string ⟨sb.toArray⟩, .int .i64 pg] rfl rfl _ _ (Blk.new wr _) itSize rfl (by simp [Value.oneCell']) ?_; intro w4 hn4 hc4)
      have hx4 := hc4.ext (Ext.alloc wr _) (Nat.le_refl _)
      have ca : w4.cell? ⟨wr.heap.size, 0, none⟩ = some (.string ⟨sb.toArray⟩) := Blk.val hn4 0 _ rfl
      have cb : w4.cell? ⟨wr.heap.size, 1, none⟩ = some (.int .i64 pg) := Blk.val hn4 1 _ rfl
      have lx := Blk.lt hn4
      have Hx4 := Lib.hid (Hex.out.trans hx4)
      clear hc4 hx4 hn4 hext hc0 hc1 hgl
      cases hb : bl key sb
      · have hle : (Go.Op.bytesLess sb key || sb == key) = true := by rw [ble_iff, hb]; rfl
        have hS : ldS key (s1, s2, s3) (sb, pg) = (pg, sb, s3) := by unfold ldS; rw [if_pos hb]
        rw [hS] at HSt
        clear hS
        go_upto_region 6 with fail
        go_quiet (fail)
        go_wp2_with fail
        refine ⟨⟨k + 1, by omega, by go_num, by rw [HSt.out], by rw [HSt.out], by rw [HSt.out], Hx4.out.trans (by first | exact Ext.drewN _ _ | exact Ext.drew _ | exact Ext.refl _)⟩, ?_⟩
        simp [intOf]; omega
      · have hle : (Go.Op.bytesLess sb key || sb == key) = false := by rw [ble_iff, hb]; rfl
        by_cases h3 : s3 = []
        · have hS : ldS key (s1, s2, s3) (sb, pg) = (s1, s2, sb) := by unfold ldS; rw [if_neg (by rw [hb]; simp), if_pos h3]
          rw [hS] at HSt
          subst h3
          clear hS
          go_wp2_with fail
          refine ⟨⟨k + 1, by omega, by go_num, by rw [HSt.out], by rw [HSt.out], by rw [HSt.out], Hx4.out⟩, ?_⟩
          simp [intOf]; omega
        · have hs3 : (s3 == ([] : List UInt8)) = false := by simpa using h3
          have hS : ldS key (s1, s2, s3) (sb, pg) = (s1, s2, s3) := by unfold ldS; rw [if_neg (by rw [hb]; simp), if_neg h3]
          rw [hS] at HSt
          clear hS
          go_wp2_with fail
          refine ⟨⟨k + 1, by omega, by go_num, by rw [HSt.out], by rw [HSt.out], by rw [HSt.out], Hx4.out⟩, ?_⟩
          simp [intOf]; omega
    · have e : k = items.length := by omega
      subst e
      rw [List.take_length, HF.out]
      simp only
      have hX := HX0.out.1.trans hext
      have hh1 := HX0.out.2.1.ext hext
      have hd1 := HX0.out.2.2.ext hext
      clear HF hext
      go_upto_region 11 with (first
        | ((with_reducible (show wpList _ _ _ (⟨some 43, _, _, _, _, _⟩ :: _) _ _)); refine wpList_hd (o := ⟨some 43, _, _, _, _, _⟩) rfl (.tmp 6) rfl _ rfl h hh1 ?_)
        | ((with_reducible (show wpList _ _ _ (⟨some 44, _, _, _, _, _⟩ :: _) _ _)); refine wpList_ds (o := ⟨some 44, _, _, _, _, _⟩) rfl (.tmp 7) rfl _ rfl d hd1 ?_)
        | (go_at_call 11; refine (HL1.out _ (Hs.out.ext hX)).mono ?_; rintro e w2 ⟨he2, q2, c2, rfl, ho2⟩))
      have hX2 := hX.trans he2
      have hh2 := hh1.ext he2
      have hd2 := hd1.ext he2
      have HQ2 := Lib.hid (path_ints ho2)
      clear hX he2 hh1 hd1 ho2
      go_upto_region 12 with (first
        | ((with_reducible (show wpList _ _ _ (⟨some 52, _, _, _, _, _⟩ :: _) _ _)); refine wpList_hd (o := ⟨some 52, _, _, _, _, _⟩) rfl (.tmp 6) rfl _ rfl h hh2 ?_)
        | ((with_reducible (show wpList _ _ _ (⟨some 53, _, _, _, _, _⟩ :: _) _ _)); refine wpList_ds (o := ⟨some 53, _, _, _, _, _⟩) rfl (.tmp 7) rfl _ rfl d hd2 ?_)
        | (go_at_call 15; refine (HB1.out _ (Hs.out.ext hX2)).mono ?_; rintro e w3 ⟨he3, rfl⟩))
      have HX3 := Lib.hid (hX2.trans he3)
      have hi3 := HQ2.out.ext he3
      obtain ⟨ib, io, rfl, hil3, hic⟩ := hi3.at H (by have := Hn1.out.1; omega)
      have hcH := hic H (by have := Hn1.out.1; omega)
      rw [Hn1.out.2.2] at hcH
      have e1 : (base == base) = true := by simp
      have e2 : (low == low) = true := by simp
      have e3 : (high == high) = true := by simp
      clear hic hi3 hX2 he3 hh2 hd2 HL1 HB1 HQ2
      go_wp2_with fail
      go_ret
      exact ⟨rfl, HX3.out⟩
end Go.Proofs.Ytolmoknjmdmpgaa
