/- Rows of sector writes in memory. -/
import Derived.Test.YtmnpappbacndlaaGreatDoorSP
import Derived.Test.YtmnpappbacndlaaGreatDoorGB
import Derived.Test.YtmnpappbacndlaaGreatDoorApp0
import Derived.Deep.DeepAppendWide
import Derived.Deep.DeepAppendRoom
set_option linter.unusedSimpArgs false
set_option linter.unusedVariables false
namespace Dsd
open Go Go.RowKit
def swC (L : List SW) : List Value := L.flatMap fun x => [.int .i64 x.1, .string ⟨x.2.toArray⟩]
theorem swC_cons (x : SW) (L : List SW) : swC (x :: L) = .int .i64 x.1 :: .string ⟨x.2.toArray⟩ :: swC L := rfl
theorem swC_app (A B : List SW) : swC (A ++ B) = swC A ++ swC B := by unfold swC; rw [List.flatMap_append]
theorem swC_len : ∀ (L : List SW), (swC L).length = L.length * 2
  | [] => rfl
  | x :: L => by have := swC_len L; rw [swC_cons, List.length_cons, List.length_cons, List.length_cons, this]; omega
def swAt (L : List SW) (i : Nat) : SW := L.getD i (0, [])
theorem swC_at : ∀ (L : List SW) (i : Nat), i < L.length → (swC L)[i * 2]? = some (.int .i64 (swAt L i).1) ∧ (swC L)[i * 2 + 1]? = some (.string ⟨(swAt L i).2.toArray⟩)
  | [], i, h => by simp at h
  | x :: L, 0, _ => by simp [swC_cons, swAt]
  | x :: L, i + 1, h => by
    have ih := swC_at L i (by simpa using h)
    rw [swC_cons, show (i + 1) * 2 = i * 2 + 2 by omega]
    unfold swAt at *
    exact ⟨by simpa using ih.1, by simpa using ih.2⟩
theorem swC_one (L : List SW) : ∀ u ∈ swC L, u.oneCell' = true := by
  intro u hu
  unfold swC at hu
  obtain ⟨x, _, hx⟩ := List.mem_flatMap.1 hu
  simp at hx
  rcases hx with rfl | rfl <;> rfl
theorem swC_take (L : List SW) (k : Nat) : (swC L).take (k * 2) = swC (L.take k) := by
  induction L generalizing k with
  | nil => simp [swC]
  | cons x L ih =>
    cases k with
    | zero => simp [swC]
    | succ k => rw [swC_cons, show (k + 1) * 2 = k * 2 + 1 + 1 by omega, List.take_succ_cons, List.take_succ_cons, ih, List.take_succ_cons, swC_cons]
theorem swC_drop (L : List SW) (k : Nat) : (swC L).drop (k * 2) = swC (L.drop k) := by
  induction L generalizing k with
  | nil => simp [swC]
  | cons x L ih =>
    cases k with
    | zero => simp [swC]
    | succ k => rw [swC_cons, show (k + 1) * 2 = k * 2 + 1 + 1 by omega, List.drop_succ_cons, List.drop_succ_cons, ih, List.drop_succ_cons]
/-- Cells from a place on. -/
theorem Cells.dropK {w : World} {b o : Nat} {xs : List Value} (h : Cells w (some ⟨b, o, none⟩) xs) (k : Nat) : Cells w (some ⟨b, o + k, none⟩) (xs.drop k) := by
  rcases h with h | ⟨b', o', hq, hl, hc⟩
  · subst h; exact .inl (by simp)
  · simp only [Option.some.injEq, Addr.mk.injEq, and_true] at hq
    obtain ⟨rfl, rfl⟩ := hq
    refine .inr ⟨b, o + k, rfl, hl, fun i hi => ?_⟩
    simp only [List.length_drop] at hi
    have := hc (k + i) (by omega)
    rw [show o + k + i = o + (k + i) by omega, this]
    simp [List.getD, List.getElem?_drop]
theorem Cells.takeK {w : World} {q : Option Addr} {xs : List Value} (h : Cells w q xs) (k : Nat) : Cells w q (xs.take k) := by
  rcases h with h | ⟨b, o, rfl, hl, hc⟩
  · subst h; exact .inl (by simp)
  · refine .inr ⟨b, o, rfl, hl, fun i hi => ?_⟩
    simp only [List.length_take] at hi
    rw [hc i (by omega)]
    simp [List.getD, List.getElem?_take, show i < k by omega]
/-- A value is a row of sector writes, in a block of type E. -/
def SwV (E : TypeId) (w : World) (v : Value) (L : List SW) : Prop := ∃ q c, v = .slice q L.length c ∧ Cells w q (swC L) ∧ L.length ≤ c ∧ c ≤ maxLen ∧ ∀ g o, q = some ⟨g, o, none⟩ → ∃ cur, Blk w g (.cells cur E)
theorem SwV.ext {E : TypeId} {w w' : World} {v : Value} {L : List SW} (h : SwV E w v L) (e : Ext w w') : SwV E w' v L := by
  obtain ⟨q, c, h1, h2, h3, h4, h5⟩ := h
  exact ⟨q, c, h1, h2.ext e, h3, h4, fun g o hq => by obtain ⟨cur, hc⟩ := h5 g o hq; exact ⟨cur, e.blk _ _ hc⟩⟩
theorem SwV.same {E : TypeId} {w w' : World} {v : Value} {L : List SW} (h : SwV E w v L) (k : ∀ g cur, Blk w g (.cells cur E) → Blk w' g (.cells cur E)) : SwV E w' v L := by
  obtain ⟨q, c, h1, h2, h3, h4, h5⟩ := h
  refine ⟨q, c, h1, ?_, h3, h4, fun g o hq => by obtain ⟨cur, hc⟩ := h5 g o hq; exact ⟨cur, k _ _ hc⟩⟩
  rcases h2 with h2 | ⟨g, o, rfl, hl, hc⟩
  · exact .inl h2
  · obtain ⟨cur, hb⟩ := h5 g o rfl
    have hb2 := k _ _ hb
    refine .inr ⟨g, o, rfl, Blk.lt hb2, fun i hi => ?_⟩
    rw [← hc i hi]
    have e : w'.heap[g]? = w.heap[g]? := hb2.trans hb.symm
    simp only [World.cell?, e]
def SwVs (E : TypeId) (w : World) (vs : List Value) (LL : List (List SW)) : Prop := vs.length = LL.length ∧ ∀ i, i < LL.length → SwV E w (vs.getD i undef) (LL.getD i [])
theorem SwVs.ext {E : TypeId} {w w' : World} {vs : List Value} {LL : List (List SW)} (h : SwVs E w vs LL) (e : Ext w w') : SwVs E w' vs LL := ⟨h.1, fun i hi => (h.2 i hi).ext e⟩
theorem SwVs.same {E : TypeId} {w w' : World} {vs : List Value} {LL : List (List SW)} (h : SwVs E w vs LL) (k : ∀ g cur, Blk w g (.cells cur E) → Blk w' g (.cells cur E)) : SwVs E w' vs LL := ⟨h.1, fun i hi => (h.2 i hi).same k⟩
/-- Blocks of another type stand where a row grows. -/
theorem grown_keeps {w w' : World} {B : Nat} {T E : TypeId} {k n : Nat} {v : Value} {xs : List Value} (ho : w.ownsRow B T k v n xs) (hg : w.grownBy w' v.ownBlock) (hne : E ≠ T) : ∀ g cur, Blk w g (.cells cur E) → Blk w' g (.cells cur E) := fun g cur hb => by
  refine (hg.block g (Blk.lt hb) (fun e => ?_)).trans hb
  obtain ⟨_, ⟨rfl, _⟩ | ⟨g', cap, cur', rfl, _, hgg, _⟩⟩ := ho
  · simp [Value.ownBlock] at e
  · simp [Value.ownBlock] at e
    subst e
    have := Option.some.inj (hb.symm.trans hgg)
    cases this
    exact hne rfl
theorem SwVs.nil (E : TypeId) (w : World) : SwVs E w [] [] := ⟨rfl, fun i hi => by simp at hi⟩
theorem SwVs.snoc {E : TypeId} {w : World} {vs : List Value} {LL : List (List SW)} {v : Value} {L : List SW} (h : SwVs E w vs LL) (hv : SwV E w v L) : SwVs E w (vs ++ [v]) (LL ++ [L]) := by
  refine ⟨by simp [h.1], fun i hi => ?_⟩
  rcases Nat.lt_or_ge i LL.length with h1 | h1
  · have e1 : (vs ++ [v]).getD i undef = vs.getD i undef := by simp [List.getD, List.getElem?_append_left (show i < vs.length by rw [h.1]; exact h1)]
    have e2 : (LL ++ [L]).getD i [] = LL.getD i [] := by simp [List.getD, List.getElem?_append_left h1]
    rw [e1, e2]; exact h.2 i h1
  · obtain rfl : i = LL.length := by simp at hi; omega
    have e1 : (vs ++ [v]).getD LL.length undef = v := by rw [← h.1]; simp [List.getD]
    have e2 : (LL ++ [L]).getD LL.length [] = L := by simp [List.getD]
    rw [e1, e2]; exact hv
theorem SwVs.set {E : TypeId} {w : World} {vs : List Value} {LL : List (List SW)} {i : Nat} {v : Value} {L : List SW} (h : SwVs E w vs LL) (hv : SwV E w v L) : SwVs E w (vs.set i v) (LL.set i L) := by
  refine ⟨by simp [h.1], fun j hj => ?_⟩
  simp only [List.length_set] at hj
  by_cases e : i = j
  · subst e
    have e1 : (vs.set i v).getD i undef = v := by simp [List.getD, show i < vs.length by rw [h.1]; exact hj]
    have e2 : (LL.set i L).getD i [] = L := by simp [List.getD, hj]
    rw [e1, e2]; exact hv
  · have e1 : (vs.set i v).getD j undef = vs.getD j undef := by simp [List.getD, List.getElem?_set_ne e]
    have e2 : (LL.set i L).getD j [] = LL.getD j [] := by simp [List.getD, List.getElem?_set_ne e]
    rw [e1, e2]; exact h.2 j hj
theorem SwVs.one {E : TypeId} {w : World} {vs : List Value} {LL : List (List SW)} (h : SwVs E w vs LL) : ∀ u ∈ vs, u.oneCell' = true := fun u hu => by
  obtain ⟨i, hi, rfl⟩ := List.mem_iff_getElem.1 hu
  obtain ⟨q, c, h1, _⟩ := h.2 i (by rw [← h.1]; exact hi)
  have e : vs.getD i undef = vs[i] := by simp [List.getD, hi]
  rw [← e, h1]; rfl
/-- An append, which tells whether the row stays in its block. -/
theorem wpList_appB {P : Program} {w : World} {ops : Array Oper} {rest : List Oper} {o : Oper} {a : Act} {Q : Exit → Act → World → Prop} (hgd : Region.wanted o (yielded ops a.tmps) = true) (d s : Operand) (T E : TypeId)
    (ho : o.op = .call { callee := .builtin .append, args := #[d, s], argTypes := #[T, T] })
    (base : Nat) (z : Value) (k bytes : Nat) (ht : P.underlying T = some (.slice E)) (hinfo : (P.info? E).map (fun i => (i.zero, i.size, i.bytes)) = some (some z, k, bytes)) (hzs : z.cells.size = k) (hk : 1 ≤ k)
    (v : Value) (n : Nat) (xs : List Value) (hv : a.eval d = v) (hown : w.ownsRow base E k v n xs) (ad : Addr) (m c : Nat) (news : List Value) (hs : a.eval s = .slice (some ad) m c) (hl : news.length = m * k) (hc : Cells w (some ad) news)
    (h1 : ∀ u ∈ news, u.oneCell' = true) (hn : n + m ≤ 100000000) (hby : bytes ≤ 1000) (hbase : base ≤ w.heap.size)
    (h : ∀ v' w', w'.ownsRow base E k v' (n + m) (xs ++ news) → w.grownBy w' v.ownBlock → (v'.ownBlock = v.ownBlock ∨ ∀ g, v'.ownBlock = some g → w.heap.size ≤ g) → wpList P ops Q rest (a.put o.dst v') w') : wpList P ops Q (o :: rest) a w := by
  refine BigFrame.wpList_want hgd fun _ hK => ?_
  obtain ⟨i, hi, hz0, hz1, hz2⟩ := info_parts hinfo
  have hnews : ∀ j u, news[j]? = some u → w.cell? (ad.add j) = some u := by
    intro j u hj
    have hjl : j < news.length := (List.getElem?_eq_some_iff.1 hj).1
    rcases hc with hc | ⟨b, off, he, hb, hcc⟩
    · subst hc; simp at hjl
    · obtain rfl := Option.some.inj he
      rw [addr_add, hcc j hjl]
      simp [List.getD, hj]
  have hmax : n + m ≤ maxLen := by unfold maxLen; omega
  have h9 : (n + m) * bytes ≤ 100000000 * 1000 := Nat.mul_le_mul hn hby
  have h8 : ((n + m) + (n + m) / 4 + 192) * bytes ≤ (100000000 + 100000000 / 4 + 192) * 1000 := Nat.mul_le_mul (by omega) hby
  have h7 : ((n + m) + (n + m) / 4 + 192) * bytes ≤ 281474976710656 := by omega
  obtain ⟨v', w', hr, h2, h3, _⟩ := run_append_own_wide (P := P) w base T o.type E i z k bytes ht hi hz0 hz1 hz2 hzs (by omega) v n xs hown ad m c news hl hnews h1 hmax h7 hbase
  refine Lib.wp_append_run w d s _ _ ho _ _ hv hs _ _ hr (hK _ _ (h v' w' h2 h3 ?_))
  rcases hown.2 with ⟨rfl, rfl⟩ | ⟨g, cap, cur, rfl, hbg, hg, hnc, hcm, hcs, htake⟩
  · have hx : xs = [] := List.eq_nil_of_length_eq_zero (by simpa using hown.1)
    subst hx
    obtain ⟨v2, w2, hr2, h22, _⟩ := run_append_own_wide (P := P) w w.heap.size T o.type E i z k bytes ht hi hz0 hz1 hz2 hzs (by omega) (.slice none 0 0) 0 [] (World.ownsRow_nil _ _ _ _) ad m c news hl hnews h1 hmax h7 (Nat.le_refl _)
    rw [hr] at hr2
    cases hr2
    refine .inr fun g2 hg2 => ?_
    rcases h22.2 with ⟨e, _⟩ | ⟨g3, _, _, e, hb3, _⟩
    · rw [e] at hg2; cases hg2
    · rw [e] at hg2
      simp [Value.ownBlock] at hg2
      omega
  · by_cases hroom : n + m ≤ cap
    · obtain ⟨w2, hr2, _⟩ := run_append_own_spare (P := P) w base T o.type E i k ht hi hz1 g n cap xs hown ad m c news hl hnews h1 hroom
      rw [hr] at hr2
      cases hr2
      exact .inl rfl
    · have hsrc : Src P i.size T (.slice (some ad) m c) m news w := Src.ofSlice w ht ad m c news (by rw [hz1]; exact hl) hnews h1
      have hold := run_firstCells_some (P := P) w.drew i.size n ⟨g, 0, none⟩ n cap xs (by rw [hz1]; exact hown.1) (fun j u hu => by simpa using hown.cells (g := g) rfl j u hu)
      have hr2 := run_append_grow_src (P := P) w T T o.type E i z ht hi hz0 (some ⟨g, 0, none⟩) n cap xs hold (.slice (some ad) m c) m news hsrc (by omega) (by unfold maxLen at hmax; omega) (by rw [hz2]; exact growslice_fits_wide (by omega) h7)
      rw [hr] at hr2
      cases hr2
      exact .inr fun g2 hg2 => by simp [Value.ownBlock] at hg2; omega
end Dsd
