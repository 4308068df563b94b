/- The walk of the program's Steps. -/
import Derived.Test.YtmnpappbacndlaaGreatDoorSD0
import Derived.Test.YtmnpappbacndlaaGreatDoorPiv3
set_option linter.unusedSimpArgs false
set_option linter.unusedVariables false
namespace Dsd
open Go Go.RowKit
def chk (R : List SW) (k : Nat) : List SW := (R.drop (k * 64)).take 64
theorem chk_len (R : List SW) (k : Nat) : (chk R k).length = min 64 (R.length - k * 64) := by simp [chk]
theorem chunks_range : ∀ (n : Nat) (R : List SW) (K j : Nat), R.length ≤ n → R.length ≤ K * 64 → (K = 0 ∨ (K - 1) * 64 < R.length) → (List.range K).map (chk R) = chunks R
  | 0, R, K, j, h0, h1, h2 => by
    obtain rfl := List.eq_nil_of_length_eq_zero (Nat.le_zero.1 h0)
    have : K = 0 := by simp at h2; omega
    subst this; rfl
  | n + 1, R, K, j, h0, h1, h2 => by
    by_cases hR : R.length = 0
    · obtain rfl := List.eq_nil_of_length_eq_zero hR
      have : K = 0 := by simp at h2; omega
      subst this; rfl
    · obtain ⟨k, rfl⟩ : ∃ k, K = k + 1 := ⟨K - 1, by omega⟩
      rw [chunks_cons (by omega), List.range_succ_eq_map, List.map_cons, List.map_map]
      have e0 : chk R 0 = R.take 64 := by simp [chk]
      rw [e0, ← chunks_range n (R.drop 64) k 0 (by simp; omega) (by simp; omega) (by simp; omega)]
      congr 1
      refine List.map_congr_left fun i _ => ?_
      simp only [Function.comp, chk, List.drop_drop]
      rw [show (i + 1) * 64 = 64 + i * 64 by omega]
theorem joinH_nil {A : List SW} (h : A.length ≠ 0) : joinH A [] = [A] := by unfold joinH; rw [if_neg h]; rfl
theorem joinH_some {A : List SW} {C : List (List SW)} (h : A.length ≠ 0) (hc : 0 < C.length) : joinH A C = if 64 < (C.getD (C.length - 1) []).length + A.length then C ++ [A] else C.set (C.length - 1) (A ++ C.getD (C.length - 1) []) := by
  unfold joinH
  rw [if_neg h]
  have e1 : C.getLast? = some (C.getD (C.length - 1) []) := by
    rw [List.getLast?_eq_getElem?]
    simp [List.getD, show C.length - 1 < C.length by omega]
  rw [e1]
  simp only
  have e2 : C.set (C.length - 1) (A ++ C.getD (C.length - 1) []) = C.dropLast ++ [A ++ C.getD (C.length - 1) []] := by
    generalize A ++ C.getD (C.length - 1) [] = Y
    have hne : C ≠ [] := by intro h; subst h; simp at hc
    have e3 := List.dropLast_concat_getLast hne
    generalize C.getLast hne = z at *
    generalize hD : C.dropLast = D at *
    subst e3
    simp
  rw [e2]
/-- Rows in blocks from a place on. -/
def SwB (base : Nat) (vs : List Value) : Prop := ∀ v ∈ vs, ∀ q n c g o, v = .slice q n c → q = some ⟨g, o, none⟩ → base ≤ g
theorem SwV.sameB {E : TypeId} {w w' : World} {v : Value} {L : List SW} {B : Nat} (h : SwV E w v L) (hb : ∀ q n c g o, v = .slice q n c → q = some ⟨g, o, none⟩ → B ≤ g) (k : ∀ g cur, B ≤ g → Blk w g (.cells cur E) → Blk w' g (.cells cur E)) : SwV E w' v L := by
  obtain ⟨q, c, h1, h2, h3, h4, h5⟩ := h
  refine ⟨q, c, h1, ?_, h3, h4, fun g o hq => by obtain ⟨cur, hc⟩ := h5 g o hq; exact ⟨cur, k _ _ (hb _ _ _ _ _ h1 hq) hc⟩⟩
  rcases h2 with h2 | ⟨g, o, rfl, hl, hc⟩
  · exact .inl h2
  · obtain ⟨cur, hbk⟩ := h5 g o rfl
    have hb2 := k _ _ (hb _ _ _ _ _ h1 rfl) hbk
    refine .inr ⟨g, o, rfl, Blk.lt hb2, fun i hi => ?_⟩
    rw [← hc i hi]
    have e : w'.heap[g]? = w.heap[g]? := hb2.trans hbk.symm
    simp only [World.cell?, e]
theorem SwVs.sameB {E : TypeId} {w w' : World} {vs : List Value} {LL : List (List SW)} {B : Nat} (h : SwVs E w vs LL) (hb : SwB B vs) (k : ∀ g cur, B ≤ g → Blk w g (.cells cur E) → Blk w' g (.cells cur E)) : SwVs E w' vs LL :=
  ⟨h.1, fun i hi => (h.2 i hi).sameB (fun q n c g o hv hq => hb _ (by
    have hi2 : i < vs.length := by rw [h.1]; exact hi
    have e : vs.getD i undef = vs[i] := by simp [List.getD, hi2]
    rw [e]; exact List.getElem_mem hi2) q n c g o hv hq) k⟩
end Dsd
namespace Go.Proofs.YtmnpappbacndlaaGreatDoor
open Go.RowKit Dsd
attribute [local go_sem] Oper.semAt_some
theorem own_base {w : World} {B : Nat} {e : TypeId} {k n : Nat} {v : Value} {xs : List Value} (h : w.ownsRow B e k v n xs) {g : Nat} (hg : v.ownBlock = some g) : B ≤ g := by
  obtain ⟨_, ⟨hv, _⟩ | ⟨g', _, _, hv, hb, _⟩⟩ := h
  · subst hv; cases hg
  · subst hv
    simp [Value.ownBlock] at hg
    omega
theorem own_set1 {w : World} {B : Nat} {T : TypeId} {go k co i : Nat} {vs : List Value} {u : Value} (h : w.ownsRow B T 1 (.slice (some ⟨go, 0, none⟩) k co) k vs) (hi : i < k) : (w.setCell ⟨go, i, none⟩ u).ownsRow B T 1 (.slice (some ⟨go, 0, none⟩) k co) k (vs.set i u) := by
  obtain ⟨hl, ⟨hv, h0⟩ | ⟨g', cap, cur, hv, h1, h2, h3, h4, h5, h6⟩⟩ := h
  · cases hv
  · cases hv
    refine ⟨by rw [List.length_set]; exact hl, .inr ⟨go, co, _, rfl, h1, Blk.setCell h2, h3, h4, by rw [Array.size_setIfInBounds]; exact h5, ?_⟩⟩
    rw [Array.toList_setIfInBounds, List.take_set, h6]
/-- The lists in memory, as they stand while the zero writes grow. -/
structure JAt (ob go k co B0 B D : Nat) (vs : List Value) (C : List (List SW)) (W : World) : Prop where
  box : Blk W ob (.cells #[.slice (some ⟨go, 0, none⟩) k co] 26)
  row : W.ownsRow B0 22 1 (.slice (some ⟨go, 0, none⟩) k co) k vs
  sws : SwVs 25 W vs C
  sb : SwB B vs
  dfr : W.heap[D]? = some (.deferred (some []))
theorem JAt.ext {ob go k co B0 B D : Nat} {vs : List Value} {C : List (List SW)} {W W' : World} (h : JAt ob go k co B0 B D vs C W) (e : Ext W W') : JAt ob go k co B0 B D vs C W' := ⟨e.blk _ _ h.box, own_ext h.row e, h.sws.ext e, h.sb, (e.block D (Array.getElem?_eq_some_iff.1 h.dfr).1).trans h.dfr⟩
theorem JAt.grown {ob go k co B0 B D : Nat} {vs : List Value} {C : List (List SW)} {W W' : World} {z : Option Nat} (h : JAt ob go k co B0 B D vs C W) (hg : W.grownBy W' z) (hz : ∀ g, z = some g → g < B) (h1 : B ≤ ob) (h2 : B ≤ B0) (h3 : B0 ≤ D) : JAt ob go k co B0 B D vs C W' :=
  ⟨Blk.grown h.box hg (fun e => by have := hz _ e; omega), own_grownS h.row hg (fun g he e => by have := hz _ e; have := own_base h.row he; omega), h.sws.sameB h.sb (fun g cur hb hk => Blk.grown hk hg (fun e => by have := hz _ e; omega)), h.sb, (hg.block D (Array.getElem?_eq_some_iff.1 h.dfr).1 (fun e => by have := hz _ e.symm; omega)).trans h.dfr⟩
def JF (ob go k co B0 B D i : Nat) (vs : List Value) (C : List (List SW)) : Fact := fun x w => x = .pointer (some ⟨go, i, none⟩) ∧ JAt ob go k co B0 B D vs C w
theorem JF.stable (ob go k co B0 B D i : Nat) (vs : List Value) (C : List (List SW)) : (JF ob go k co B0 B D i vs C).stable := fun _ _ _ he ⟨h1, h2⟩ => ⟨h1, h2.ext he⟩
/-- The append (operation 7); and operation 8, ahead of which all lies. -/
def RSt (B : Nat) (z : Option Nat) : Nat → Rel := fun i w w' => if i = 7 then B ≤ w.heap.size ∧ w.grownBy w' z else w' = w
def PrSt (J Z : World → Prop) : Nat → World → Prop := fun i w => if i = 7 then J w ∧ Z w else J w
theorem gok_st2 (l : List Oper) (w0 : World) {z : Option Nat} (hr : ∀ g, z = some g → w0.heap.size ≤ g) : GOk l w0 [(7, []), (8, [])] (RSt w0.heap.size z) (fun _ _ => Any) :=
  ⟨fun i w w' h => by
    unfold RSt at h
    split at h
    · exact (Below.refl _ w).grown h.2 h.1 fun k hk => hr k hk
    · subst h; exact Below.refl _ _, fun _ _ => Any.stable, fun i j k hk => by simp [killB] at hk, fun i j hk => by simp [killB] at hk⟩
theorem prok_st2 {l : List Oper} {N B : Nat} {z : Option Nat} {J Z : World → Prop} (hm : mustB .any l 7 8 = true) (hJ : ∀ w w', Ext w w' → J w → J w') (hZ : ∀ w w', Ext w w' → Z w → Z w') (hg : ∀ w w', w.grownBy w' z → J w → J w') (hB : orderB .any l.toArray N = true) : Pre.PrOk .any l.toArray [(7, []), (8, [])] (RSt B z) (PrSt J Z) := by
  refine ⟨fun i _ w w' he h => ?_, fun i j hp hq hij => ?_⟩
  · unfold PrSt at *
    split
    · rename_i hi
      rw [if_pos hi] at h
      exact ⟨hJ w w' he h.1, hZ w w' he h.2⟩
    · rename_i hi
      rw [if_neg hi] at h
      exact hJ w w' he h
  · simp [pivB] at hp hq
    rcases hp with rfl | rfl
    · rcases hq with rfl | rfl
      · exact absurd rfl hij
      · exact .inl (mustB_must hB hm)
    · rcases hq with rfl | rfl
      · refine .inr fun w w' c h => ?_
        unfold RSt at c
        rw [if_pos rfl] at c
        unfold PrSt at h ⊢
        rw [if_neg (by decide)] at h ⊢
        exact hg w w' c.2 h
      · exact absurd rfl hij
/-- append(d, s...), where s may be nil. -/
theorem wp_appZ {w : World} {o : Oper} {a : Act} {K : Act → World → Prop} {Q : Exit → Act → World → Prop} (d s : Operand)
    (ho : o.op = .call { callee := .builtin .append, args := #[d, s], argTypes := #[22, 22] }) (base : Nat) (v : Value) (n : Nat) (xs : List Value) (hv : a.eval d = v) (hown : w.ownsRow base 25 2 v n xs) (p : Option Addr) (m c : Nat) (news : List Value) (hs : a.eval s = .slice p m c) (hl : news.length = m * 2) (hc : Cells w p news)
    (h1 : ∀ u ∈ news, u.oneCell' = true) (hn : n + m ≤ 100000000) (hbase : base ≤ w.heap.size)
    (h : ∀ v' w', w'.ownsRow base 25 2 v' (n + m) (xs ++ news) → w.grownBy w' v.ownBlock → K (a.put o.dst v') w') : o.wp Tryz.prog a w K Q := by
  by_cases hm : m = 0
  · subst hm
    obtain rfl : news = [] := List.eq_nil_of_length_eq_zero (by omega)
    obtain ⟨q, k, rfl⟩ := own_slice hown
    obtain ⟨_, hle, _⟩ := own_cellsS hown
    obtain ⟨i0, hi0, hz0, hzs, hzb⟩ := info_parts infoSW
    have hr : (Builtin.append_ #[22, 22] o.type #[.slice q n k, .slice p 0 c]).run Tryz.prog w = .ok (.slice q n k) w := by
      cases p <;> cases q <;> simp [Builtin.append_, run_underlying Tryz.underlying22, Go.sizeOf, typeInfo, hi0, Builtin.lenOf, Builtin.firstCells, loadCells, loadCellsFrom, Go.storeCells, hle]
    exact Lib.wp_append_run w d s _ _ ho _ _ hv hs _ _ hr (h _ _ (by simpa using hown) ⟨rfl, rfl, rfl, Nat.le_refl _, fun _ _ _ => rfl⟩)
  · obtain ⟨ad, rfl⟩ : ∃ ad, p = some ad := by
      obtain ⟨b, off, h, _⟩ := hc.at 0 (by omega)
      exact ⟨_, h⟩
    exact wp_appk d s 22 25 ho base (.agg #[.int .i64 0, .string ByteArray.empty]) 2 24 Tryz.underlying22 infoSW rfl (by decide) v n xs hv hown (some ad) m c news hs rfl hl hc h1 hn (by decide) hbase h
theorem below_mono0 {n m : Nat} {A B : World} (h : Below n A B) (hm : m ≤ n) : Below m A B := ⟨h.os, h.tape, h.output, h.size, fun k hk => h.block k (by omega)⟩
/-- A slice of one row. -/
def OneF (T E : TypeId) (B m : Nat) (xs : List Value) : Fact := fun x w => ∃ b q c, x = .slice (some ⟨b, 0, none⟩) 1 1 ∧ Blk w b (.cells #[.slice q m c] T) ∧ w.ownsRow B E 2 (.slice q m c) m xs
theorem OneF.stable (T E : TypeId) (B m : Nat) (xs : List Value) : (OneF T E B m xs).stable := fun _ _ _ he ⟨b, q, c, h1, h2, h3⟩ => ⟨b, q, c, h1, he.blk _ _ h2, own_ext h3 he⟩
set_option maxRecDepth 100000 in
set_option maxHeartbeats 4000000 in
theorem StepsP_any (p : Option Addr) (cap n : Nat) (L : List SW) (w : World) (hc : Cells w p (swC L)) (hn : L.length = n) (hm : n ≤ 400) :
    Calls Tryz.prog 5 #[.slice p n cap] w fun e w' => Ext w w' ∧ ∃ v vs, e = .returned v ∧ w'.ownsRow w.heap.size 22 1 v (joinH (hdL L n) (chunks (rsL L n))).length vs ∧ SwVs 25 w' vs (joinH (hdL L n) (chunks (rsL L n))) := by
  have Hc := Lib.hid hc
  have Hn := Lib.hid hn
  clear hc hn
  obtain ⟨LL, hLL⟩ : ∃ LL, LL = joinH (hdL L n) (chunks (rsL L n)) := ⟨_, rfl⟩
  rw [← hLL]
  have HLL := Lib.hid hLL
  clear hLL
  refine calls_of_wp_marks Tryz.func5 rfl ?_
  simp only [Tryz.ntmps5, List.size_toArray, List.length_cons, List.length_nil, Nat.reduceAdd, Nat.reduceSub, Array.replicate_succ, Array.replicate_zero, List.push_toArray, List.append_toArray, List.nil_append, List.cons_append]
  go_upto_region 3 with (fail)
  have h1 : Two w w 25 (.slice none 0 0) (.slice none 0 0) [] [] := ⟨Ext.refl _, World.ownsRow_nil _ _ _ _, World.ownsRow_nil _ _ _ _, fun g h => by simp [Value.ownBlock] at h⟩
  obtain ⟨w1, rfl⟩ : ∃ w1 : World, w1 = w := ⟨_, rfl⟩
  go_loopw [3, 4, 12] (fun h r i wr => ∃ j : Nat, j ≤ n ∧ i = .int .i64 j ∧ Two w1 wr 25 h r (hdL L j) (rsL L j)) (fun _ _ i _ => n - (intOf i).toNat)
  case atStart => exact ⟨0, Nat.zero_le _, rfl, by simpa [hdL, rsL] using h1⟩
  case round =>
    clear h1
    obtain ⟨j, hj, rfl, hT⟩ := hrel
    obtain ⟨qh, ch, rfl⟩ := own_slice hT.oh
    obtain ⟨qr, cr, rfl⟩ := own_slice hT.or
    obtain ⟨hl1, hl2⟩ := hdL_le L j
    by_cases hlt : j < n
    · have hltI : (j : Int) < n := by omega
      have hjL : j < L.length := by rw [Hn.out]; exact hlt
      obtain ⟨b, off, rfl, hb, hcc⟩ := swc_at (Hc.out.ext hT.ext) j hjL
      obtain ⟨c1, c2⟩ := hcc j hjL
      have HY := Lib.hid (fun hx => hdL_yes hjL hx)
      have HN := Lib.hid (fun hx => hdL_no hjL hx)
      have HT := Lib.hid hT
      clear hcc hT
      generalize hE1 : hdL L (j + 1) = A1 at *
      generalize hE2 : rsL L (j + 1) = B1 at *
      have HE1 := Lib.hid hE1
      have HE2 := Lib.hid hE2
      clear hE1 hE2
      generalize hdL L j = A at *
      generalize rsL L j = B at *
      generalize swAt L j = x at *
      obtain ⟨u, s⟩ := x
      simp only at c1 c2 HY HN
      go_upto_region 5 with (fail)
      refine wp_name (fun w4 => Ext wr w4 ∧ Blk w4 wr.heap.size (.cells #[.int .i64 u, .string ⟨s.toArray⟩] 25)) ⟨Ext.alloc _ _, Blk.new _ _⟩ ?_
      rintro w4 ⟨he4, hb4⟩
      have d0 : w4.cell? ⟨wr.heap.size, 0, none⟩ = some (.int .i64 u) := Blk.val hb4 0 _ rfl
      have l4 := Blk.lt hb4
      have Hb4 := Lib.hid hb4
      have HT4 := Lib.hid (HT.out.more he4)
      clear HT he4 hb4 c1 c2 hb
      generalize wr.heap.size = xb at *
      cases hu : u == 0
      · have ⟨e1, e2⟩ := HN.out hu
        subst e1 e2
        have hT2 := Lib.hid ((HT4.out.more (Ext.alloc w4 (.cells #[.int .i64 u, .string ⟨s.toArray⟩] 25))).swap)
        go_wp2_with (first
          | (refine wpList_row (o := ⟨some 24, _, _, _, _, _⟩) rfl 25 (.tmp 6) rfl _ rfl _ _ _ Hb4.out swDesc rfl swSize ?_)
          | (at_builtin; go_must (refine wpList_appB (by rfl) (.tmp 23) (.tmp 25) 22 25 rfl w1.heap.size (.agg #[.int .i64 0, .string ByteArray.empty]) 2 24 Tryz.underlying22 infoSW rfl (by decide) _ B.length _ rfl hT2.out.oh ⟨w4.heap.size, 0, none⟩ 1 1 (swC [(u, s)]) rfl rfl (cells_blk (Blk.new w4 _)) (swC_one _) (by omega) (by decide) (by have := HT4.out.ext.size; simp; omega) ?_; intro v8 w8 ho8 hg8 hb8)))
        have hT8 := hT2.out.app ho8 hg8 hb8
        have HT8 := Lib.hid hT8.swap
        clear ho8 hg8 hb8 hT8
        go_roundw
        case rel => exact ⟨j + 1, by omega, by go_num, by rw [HE1.out, HE2.out]; exact HT8.out⟩
        case measure => simp [intOf]; omega
      · have ⟨e1, e2⟩ := HY.out hu
        subst e1 e2
        have hT2 := Lib.hid (HT4.out.more (Ext.alloc w4 (.cells #[.int .i64 u, .string ⟨s.toArray⟩] 25)))
        go_wp2_with (first
          | (refine wpList_row (o := ⟨some 20, _, _, _, _, _⟩) rfl 25 (.tmp 6) rfl _ rfl _ _ _ Hb4.out swDesc rfl swSize ?_)
          | (at_builtin; go_must (refine wpList_appB (by rfl) (.tmp 19) (.tmp 21) 22 25 rfl w1.heap.size (.agg #[.int .i64 0, .string ByteArray.empty]) 2 24 Tryz.underlying22 infoSW rfl (by decide) _ A.length _ rfl hT2.out.oh ⟨w4.heap.size, 0, none⟩ 1 1 (swC [(u, s)]) rfl rfl (cells_blk (Blk.new w4 _)) (swC_one _) (by omega) (by decide) (by have := HT4.out.ext.size; simp; omega) ?_; intro v8 w8 ho8 hg8 hb8)))
        have hT8 := hT2.out.app ho8 hg8 hb8
        have HT8 := Lib.hid hT8
        clear ho8 hg8 hb8 hT8
        go_roundw
        case rel => exact ⟨j + 1, by omega, by go_num, by rw [HE1.out, HE2.out]; exact HT8.out⟩
        case measure => simp [intOf]; omega
    · have hltI : decide ((j : Int) < n) = false := decide_eq_false (by omega)
      obtain rfl : j = n := by omega
      have HT := Lib.hid hT
      clear hT Hc Hn
      generalize hdL L j = A at *
      generalize rsL L j = B at *
      obtain ⟨wo, rfl⟩ : ∃ wo : World, wo = wr := ⟨_, rfl⟩
      go_wp2_with (go_at_call 9; refine (Chunk_any qr cr B.length _).mono ?_; rintro e w5 ⟨he5, b0, b1, rfl, hb0, hb1, hz0, hz1⟩)
      have hE5 : Ext wo w5 := (Ext.alloc wo (.cells #[.slice none 0 0] 26)).trans he5
      have hob : Blk w5 wo.heap.size (.cells #[.slice none 0 0] 26) := he5.blk _ _ (Blk.new wo _)
      have hlb0 := Blk.lt hb0
      obtain ⟨hrc, hrm⟩ := (own_cellsS HT.out.or).2
      have HRc := Lib.hid (own_cellsS HT.out.or).1
      have HIt := chunk_iter qr cr B.length b0 b1 wo.heap.size w5 (fun h => by obtain ⟨g, hg⟩ := own_ptr HT.out.or h; exact ⟨g, 0, hg⟩) hrc (by omega) hb0 hb1 hE5.size (fun b t => t = 26 ∨ (t = 22 ∧ w5.heap.size ≤ b)) (by rintro (h | ⟨_, h⟩); exact absurd h (by decide); omega) (by rintro (h | ⟨h, _⟩); exact absurd h (by decide); exact absurd h (by decide))
      have HI0 : Hid (Ext wo w5 ∧ ∃ v vs, Blk w5 wo.heap.size (.cells #[v] 26) ∧ w5.ownsRow w5.heap.size 22 1 v ([] : List Nat).length vs ∧ SwVs 25 w5 vs (([] : List Nat).map (chk B)) ∧ SwB wo.heap.size vs) := Lib.hid ⟨hE5, _, [], hob, World.ownsRow_nil _ _ _ _, SwVs.nil _ _, fun v hv => by cases hv⟩
      have Hit := Lib.hid HIt
      have HE5 := Lib.hid hE5
      clear HIt hob he5 hb0 hb1 hz0 hz1 hE5 hlb0
      refine wp_rangeFunc_kc (n0 := wo.heap.size) HE5.out.size (tI := fun _ _ => False) rfl (enters_of Tryz.func16 (by kernel_rfl) rfl) (encs := encC qr B.length) (fun x => rfl) (fun xs A B k hS => hS) (fun xs A B k hS => hS) Hit.out
        (fun pre W => Ext wo W ∧ ∃ v vs, Blk W wo.heap.size (.cells #[v] 26) ∧ W.ownsRow w5.heap.size 22 1 v pre.length vs ∧ SwVs 25 W vs (pre.map (chk B)) ∧ SwB wo.heap.size vs) (fun _ _ _ => False)
        (fun pre A B k ⟨he, v, vs, hb, ho, hv, hs⟩ => ⟨Ext.trans' he k.below, v, vs, k.blk hb (fun h => h), own_kc ho k (fun _ h => h), hv.same (fun g cur hg => k.blk hg (fun h => h)), hs⟩) (fun _ _ _ _ _ h => h) HI0.out ?round ?done (fun _ _ _ _ _ _ h => h.elim)
      case round =>
        rintro l pre x W hz ⟨hex, v, vs, hbo, hown, hvs, hsb⟩ ⟨hx1, hx2, hx3⟩
        obtain ⟨g, rfl⟩ := own_ptr HT.out.or (show 0 < B.length by omega)
        rw [← hx1] at hx3
        have hxe : encC (some ⟨g, 0, none⟩) B.length x = #[.slice (some ⟨g, 0 + x * 64 * 2, none⟩) (min 64 (B.length - x * 64)) (min 64 (B.length - x * 64))] := rfl
        rw [hxe]
        clear hxe
        have HC : Hid (Cells wo (some ⟨g, 0 + x * 64 * 2, none⟩) (swC (chk B x))) := Lib.hid (by
          have := (HRc.out.dropK (x * 64 * 2)).takeK (64 * 2)
          rw [show x * 64 * 2 = (x * 64) * 2 from rfl, swC_drop, swC_take] at this
          exact this)
        have HCl : Hid ((swC (chk B x)).length = min 64 (B.length - x * 64) * 2 ∧ (chk B x).length = min 64 (B.length - x * 64)) := Lib.hid ⟨by rw [swC_len, chk_len], chk_len _ _⟩
        have hmm : min 64 (B.length - x * 64) ≤ 64 := by omega
        have Hmap : Hid ((pre ++ [x]).map (chk B) = pre.map (chk B) ++ [chk B x]) := Lib.hid (by simp)
        have hpl : pre.length ≤ 400 := by omega
        generalize chk B x = X at *
        generalize min 64 (B.length - x * 64) = m0 at *
        generalize 0 + x * 64 * 2 = o0 at *
        gi_wp2
        refine ⟨KeepsFrom.of_ext (Ext.refl _), ?_⟩
        intro W2 hk2 hz2
        have hex2 : Ext wo W2 := Ext.trans' hex hk2.below
        have Hk : Hid (Kc wo.heap.size (fun b t => t = 26 ∨ (t = 22 ∧ w5.heap.size ≤ b)) W W2) := Lib.hid (hk2.mono (fun _ _ h => h.elim))
        obtain ⟨qo, co, rfl⟩ := own_slice hown
        have hbo2 := hk2.blk hbo (fun h => h)
        have HS := Lib.hid (And.intro hex2 (And.intro hbo2 (And.intro (own_kc hown hk2 (fun _ h => h)) (And.intro (hvs.same (fun g cur hg => hk2.blk hg (fun h => h))) hsb))))
        have c0 : W2.cell? ⟨wo.heap.size, 0, none⟩ = some (.slice qo pre.length co) := Blk.val hbo2 0 _ rfl
        have l0 := Blk.lt hbo2
        have f0 : W2.frozen? ⟨wo.heap.size, 0, none⟩ = false := Blk.free hbo2 0
        have HClone : Hid (∀ W', Ext W2 W' → Calls Tryz.prog 10 #[.slice (some ⟨g, o0, none⟩) m0 m0] W' fun e W'' => ∃ v, e = .returned v ∧ Ext W' W'' ∧ RowsF 25 W2.heap.size 2 m0 (swC X) v W'') := Lib.hid (fun W' e => (CloneW_any (some ⟨g, o0, none⟩) m0 m0 (swC X) W' (HC.out.ext (hex2.trans e)) HCl.out.1 (swC_one _) (by omega) (fun h => by cases h)).mono (by
          rintro e' W'' ⟨h1, v, rfl, h2⟩
          obtain ⟨q9, c9, rfl⟩ := own_slice h2
          exact ⟨_, rfl, h1, q9, c9, rfl, own_le h2 e.size⟩))
        have hz5 : w5.heap.size ≤ W2.heap.size := by omega
        clear hex hbo hown hvs hsb hx1 hx2 hx3 hk2 hbo2 hex2
        gi_wp2
        refine region_mk_in (.inr ⟨l, rfl⟩) (fun ⟨_, _, h⟩ => h) 4 (by rfl) (Ext.refl W2) (by kernel_rfl) (by kernel_rfl) (by kernel_rfl) ?_
        simp only [List.take_succ_cons, List.take_zero, List.take_nil, List.drop_succ_cons, List.drop_zero, List.drop_nil, List.map_cons, List.map_nil]
        repeat (first
          | (refine wpML_fact (o := ⟨some 33, _, _, _, _, _⟩) (RowsF 25 W2.heap.size 2 m0 (swC X)) (RowsF.stable _ _ _ _ _) rfl ?_ ?_
             · intro a w' he hr K hK
               simp [Reads, Oper.looksAt, Op.operands, Call.operands, factAt, Is] at hr
               go_simp
               refine ((HClone.out w' he)).mono ?_
               rintro e w'' ⟨v, rfl, he', hf⟩
               exact hK _ _ he' hf
             simp only [setL, List.set_cons_succ, List.set_cons_zero])
          | (refine wpML_fact (o := ⟨some 34, _, _, _, _, _⟩) (OneF 22 25 W2.heap.size m0 (swC X)) (OneF.stable _ _ _ _ _) rfl ?_ ?_
             · intro a w' he hr K hK
               obtain ⟨q1, c1, h1, h3⟩ := hr 33 (by simp [Oper.looksAt, Op.operands])
               simp at h1
               go_simp
               exact hK _ _ (Ext.alloc _ _) ⟨_, q1, c1, rfl, Blk.new _ _, own_ext h3 (Ext.alloc _ _)⟩
             simp only [setL, List.set_cons_succ, List.set_cons_zero])
          | (refine wpML_move _ _ rfl (by first | exact .inl rfl | exact .inr rfl) rfl (by first | exact Is.stable _ | exact AppF.stable _ | exact WrF.stable _ | exact PtrF.stable _ _ | exact IfcF.stable (Fresh.stable _ _ _) _ | exact PairF.stable (RowF.stable _ _ _ _) _ | exact RowF.stable _ _ _ _ | exact Fresh.stable _ _ _) ?_
             simp only [setL, List.set_cons_succ, List.set_cons_zero, List.getD_cons_succ, List.getD_cons_zero])
          | (refine wpML_moveC _ rfl (by first | exact .inl rfl | exact .inr rfl) ?_
             simp only [setL, List.set_cons_succ, List.set_cons_zero])
          | (apply wpML_det rfl
             · intro a w' he hr K hK
               simp [Reads, Oper.looksAt, Op.operands, Call.operands, factAt, Is] at hr
               have hx := he.cell
               go_simp
               try go_bits
               try (rw [if_neg (by omega)]; go_simp)
               first
                 | exact hK _ (Ext.refl _)
             simp only [setL, List.set_cons_succ, List.set_cons_zero])
          | (apply wpML_det rfl
             · intro a w' he hr K hK
               simp [Reads, Oper.looksAt, Op.operands, Call.operands, factAt, Fresh] at hr
               obtain ⟨b, hr1, hr2⟩ := hr
               go_simp
               exact hK _ (Ext.refl _)
             simp only [setL, List.set_cons_succ, List.set_cons_zero]))
        intro w2 he2
        repeat (first | with_reducible refine rest_is _ _ _ _ ?_ | (with_reducible refine rest_fact _ _ _ _ ?_; intro _ _) | with_reducible refine rest_end _ _ ?_)
        simp only [List.reverse_cons, List.reverse_nil, List.nil_append, List.cons_append]
        rename_i x33 h33 x34 h34
        obtain ⟨bb, qx, cx, rfl, hbb, hox⟩ := h34
        clear h33
        have hown2 := own_ext HS.out.2.2.1 he2
        have hbo3 := he2.blk _ _ HS.out.2.1
        have hcb := cells_blk hbb
        have Hown2 := Lib.hid hown2
        have Hbo3 := Lib.hid hbo3
        have Hox := Lib.hid hox
        have He2 := Lib.hid he2
        have Hcb := Lib.hid hcb
        have hz3 : w5.heap.size ≤ w2.heap.size := Nat.le_trans hz5 he2.size
        clear hown2 hbo3 hox hcb hbb he2 c0 l0 f0 HClone
        go_wp2_with (at_builtin; go_must (refine wpList_appB (by rfl) (.tmp 31) (.tmp 34) 26 22 rfl w5.heap.size (.slice none 0 0) 1 24 Tryz.underlying26 infoSWs rfl (by decide) _ pre.length vs rfl Hown2.out ⟨bb, 0, none⟩ 1 1 [.slice qx m0 cx] rfl rfl Hcb.out (by intro u hu; simp at hu; subst hu; rfl) (by omega) (by decide) hz3 ?_; intro v8 w8 ho8 hg8 hb8; obtain ⟨q8, c8, rfl⟩ := own_slice ho8; have hk8 := Kc.of_grownB (n0 := wo.heap.size) (tc := fun b t => t = 22 ∧ w5.heap.size ≤ b) hg8 Hown2.out HE5.out.size hz3 (fun b hb => ⟨rfl, hb⟩); have hf8 := KeepsFrom.of_grown (B := w5.heap.size) hg8 Hown2.out; have hb9 := hk8.blk Hbo3.out (by rintro ⟨h, _⟩; exact absurd h (by decide)); have Hgk := Lib.hid (grown_keeps (E := 25) Hown2.out hg8 (by decide)); have c8' := (show w8.cell? ⟨wo.heap.size, 0, none⟩ = some (.slice qo pre.length co) from Blk.val hb9 0 _ rfl); have f8 := (show w8.frozen? ⟨wo.heap.size, 0, none⟩ = false from Blk.free hb9 0); have l8 := Blk.lt hb9; have Ho8 := Lib.hid ho8; have Hk8 := Lib.hid hk8; have Hf8 := Lib.hid hf8; have Hb9 := Lib.hid hb9; clear ho8 hg8 hb8 hk8 hf8 hb9))
        have hc := Chg.setCell (w := w8) (g := wo.heap.size) (i := 0) (v := .slice q8 (pre.length + 1) c8)
        refine ⟨((KeepsFrom.of_ext He2.out).trans Hf8.out).trans (KeepsFrom.of_chg hc Hb9.out), Hk.out.trans ((Kc.of_ext He2.out HS.out.1.size).trans ((Hk8.out.mono (fun _ _ h => .inr h)).trans (Kc.of_chg hc (Nat.le_refl _) Hb9.out (.inl rfl)))),
          hc.ext (Ext.trans' (HS.out.1.trans He2.out) Hk8.out.below) (Nat.le_refl _), _, Blk.setCell Hb9.out, vs ++ [.slice qx m0 cx], by rw [List.length_append]; exact own_chgT Ho8.out (by decide) Hb9.out hc, ?_, ?_⟩
        · rw [Hmap.out]
          exact SwVs.same (SwVs.same (SwVs.snoc (HS.out.2.2.2.1.ext He2.out) (own_swv Hox.out HCl.out.2)) Hgk.out) (fun g cur hg => hc.blk hg (blk_ne hg Hb9.out (by decide)))
        · intro v hv q n c g o hvq hq
          rcases List.mem_append.1 hv with h1 | h1
          · exact HS.out.2.2.2.2 v h1 q n c g o hvq hq
          · simp at h1
            subst h1
            cases hvq
            subst hq
            obtain ⟨_, ⟨h2, _⟩ | ⟨g', _, _, h2, h3, _⟩⟩ := Hox.out
            · simp at h2
            · simp at h2
              have := HS.out.1.size
              omega
      case done =>
        rintro D xs W hD ⟨K, rfl, hK1, hK2⟩ ⟨hex, v, vs, hbo, hown, hvs, hsb⟩ hK
        rw [List.length_range] at hown
        have hCC : (List.range K).map (chk B) = chunks B := chunks_range B.length B K 0 (Nat.le_refl _) hK1 hK2
        have hlast : 0 < K → (chunks B).getD (K - 1) [] = chk B (K - 1) := fun h => by rw [← hCC]; simp [List.getD, show K - 1 < K by omega]
        rw [hCC] at hvs
        have hKl : (chunks B).length = K := by rw [← hCC]; simp
        have hK400 : K ≤ 400 := by omega
        obtain ⟨qo, co, rfl⟩ := own_slice hown
        have c0 : W.cell? ⟨wo.heap.size, 0, none⟩ = some (.slice qo K co) := Blk.val hbo 0 _ rfl
        have f0 : W.frozen? ⟨wo.heap.size, 0, none⟩ = false := Blk.free hbo 0
        have l0 := Blk.lt hbo
        have HS := Lib.hid (And.intro hex (And.intro hbo (And.intro hown (And.intro hvs hsb))))
        have HK := Lib.hid hK
        have HKl := Lib.hid hKl
        have Hlast := Lib.hid hlast
        have HD := Lib.hid hD
        clear hex hbo hown hvs hsb hK hK1 hK2 hCC hKl hlast hD
        generalize hCe : chunks B = CC at *
        have HCe := Lib.hid hCe
        clear hCe
        have hw15 : w1.heap.size ≤ w5.heap.size := Nat.le_trans HT.out.ext.size HE5.out.size
        have HFin : Hid (∀ (W' : World) (v : Value) (vs : List Value), Ext w1 W' → W'.heap[D]? = some (.deferred (some [])) → W'.ownsRow w1.heap.size 22 1 v LL.length vs → SwVs 25 W' vs LL → Ext w1 (W'.putObj D (.deferred none)) ∧ ∃ v' vs', Ending.returned v = Ending.returned v' ∧ (W'.putObj D (.deferred none)).ownsRow w1.heap.size 22 1 v' LL.length vs' ∧ SwVs 25 (W'.putObj D (.deferred none)) vs' LL) := Lib.hid (fun W' v vs h1 h2 h3 h4 => by
          have hkp := Kc.of_put (n0 := w1.heap.size) (tc := fun _ _ => False) (.deferred none) h2 rfl (Nat.le_trans hw15 HD.out)
          exact ⟨Ext.trans' h1 hkp.below, v, vs, rfl, own_kc h3 hkp (fun _ h => h), h4.same (fun g cur hg => hkp.blk hg (fun h => h))⟩)
        by_cases hA : A.length = 0
        · have a1 : ((A.length : Int) == 0) = true := by simp [hA]
          have HL2 : Hid (LL = CC) := Lib.hid (by rw [HLL.out]; unfold joinH; rw [if_pos hA])
          clear hA
          go_wp2_with fail
          refine postM_mark HK.out (results_tmp (t := 2) (by kernel_rfl) _ _ _) (HFin.out W (.slice qo K co) vs (HT.out.ext.trans HS.out.1) HK.out (by rw [HL2.out, HKl.out]; exact own_le HS.out.2.2.1 hw15) (by rw [HL2.out]; exact HS.out.2.2.2.1))
        · have a1 : ((A.length : Int) == 0) = false := beq_eq_false_iff_ne.2 (by omega)
          have a2 : ¬ A.length = 0 := hA
          have HZ := Lib.hid (own_swv (own_ext HT.out.oh HS.out.1) rfl)
          by_cases hK0 : K = 0
          · subst hK0
            have HL2 : Hid (LL = CC ++ [A]) := Lib.hid (by rw [HLL.out, List.eq_nil_of_length_eq_zero HKl.out]; exact joinH_nil hA)
            clear hA
            go_upto_region 17 with (fail)
            have Hoa := Lib.hid (own_ext HS.out.2.2.1 (Ext.alloc W (.cells #[.slice qh A.length ch] 22)))
            have Hba := Lib.hid ((Ext.alloc W (.cells #[.slice qh A.length ch] 22)).blk _ _ HS.out.2.1)
            have hza : w5.heap.size ≤ (W.alloc (.cells #[.slice qh A.length ch] 22)).heap.size := by
              obtain ⟨_, hlt⟩ := Array.getElem?_eq_some_iff.1 HK.out
              have := HD.out
              simp
              have := (Array.getElem?_eq_some_iff.1 HK.out).1
              omega
            go_wp2_with (at_builtin; go_must (refine wpList_appB (by rfl) (.tmp 66) (.tmp 68) 26 22 rfl w5.heap.size (.slice none 0 0) 1 24 Tryz.underlying26 infoSWs rfl (by decide) _ _ vs rfl Hoa.out ⟨W.heap.size, 0, none⟩ 1 1 [.slice qh A.length ch] rfl rfl (cells_blk (Blk.new W _)) (by intro u hu; simp at hu; subst hu; rfl) (by omega) (by decide) hza ?_; intro v8 w8 ho8 hg8 hb8; obtain ⟨q8, c8, rfl⟩ := own_slice ho8; have hk8 := Kc.of_grownB (n0 := wo.heap.size) (tc := fun b t => t = 22 ∧ w5.heap.size ≤ b) hg8 Hoa.out HE5.out.size hza (fun b hb => ⟨rfl, hb⟩); have hf8 := KeepsFrom.of_grown (B := w5.heap.size) hg8 Hoa.out; have hb9 := hk8.blk Hba.out (by rintro ⟨h, _⟩; exact absurd h (by decide)); have Hgk := Lib.hid (grown_keeps (E := 25) Hoa.out hg8 (by decide)); have c8' := (show w8.cell? ⟨wo.heap.size, 0, none⟩ = _ from Blk.val hb9 0 _ rfl); have f8 := (show w8.frozen? ⟨wo.heap.size, 0, none⟩ = false from Blk.free hb9 0); have l8 := Blk.lt hb9; have Ho8 := Lib.hid ho8; have Hk8 := Lib.hid hk8; have Hf8 := Lib.hid hf8; have Hb9 := Lib.hid hb9; clear ho8 hg8 hb8 hk8 hf8 hb9))
            have hc := Chg.setCell (w := w8) (g := wo.heap.size) (i := 0) (v := .slice q8 (0 + 1) c8)
            have hkd := (((KeepsFrom.of_ext (B := w5.heap.size) (Ext.alloc W (.cells #[.slice qh A.length ch] 22))).trans Hf8.out).trans (KeepsFrom.of_chg hc Hb9.out)).same _ _ HD.out HK.out rfl
            refine postM_mark hkd (results_tmp (t := 2) (by kernel_rfl) _ _ _) (HFin.out (w8.setCell ⟨wo.heap.size, 0, none⟩ (.slice q8 (0 + 1) c8)) (.slice q8 (0 + 1) c8) (vs ++ [.slice qh A.length ch]) (hc.ext (Ext.trans' ((HT.out.ext.trans HS.out.1).trans (Ext.alloc W _)) (below_mono0 Hk8.out.below HT.out.ext.size)) HT.out.ext.size) hkd (by rw [HL2.out, List.length_append, HKl.out]; exact own_le (own_chgT Ho8.out (by decide) Hb9.out hc) hw15) ?_)
            rw [HL2.out]
            exact SwVs.same (SwVs.same (SwVs.snoc (HS.out.2.2.2.1.ext (Ext.alloc W _)) (HZ.out.ext (Ext.alloc W _))) Hgk.out) (fun g cur hg => hc.blk hg (blk_ne hg Hb9.out (by decide)))
          · have hKp : 0 < K := by omega
            have hVl := HS.out.2.2.2.1.2 (K - 1) (by rw [HKl.out]; omega)
            have hJ := joinH_some (C := CC) hA (by rw [HKl.out]; exact hKp)
            rw [HKl.out] at hJ
            have hlt1 : K - 1 < vs.length := by have := HS.out.2.2.2.1.1; rw [this, HKl.out]; omega
            generalize hX : CC.getD (K - 1) [] = X at *
            obtain ⟨qx, cx, hvx, hxc, hxl, hxm, hxt⟩ := hVl
            have hx400 : X.length ≤ 64 := by rw [Hlast.out hKp, chk_len]; omega
            obtain ⟨go, rfl⟩ := own_ptr HS.out.2.2.1 hKp
            have hcell : W.cell? ⟨go, K - 1, none⟩ = some (.slice qx X.length cx) := by
              obtain ⟨b9, o9, h1, h2, h3⟩ := (own_cellsS HS.out.2.2.1).1.at 0 (by omega)
              have h4 := h3 (K - 1) hlt1
              simp only [Option.some.injEq, Addr.mk.injEq, and_true] at h1
              obtain ⟨rfl, rfl⟩ := h1
              rw [Nat.zero_add, hvx] at h4
              exact h4
            have hgl : go < W.heap.size := by
              obtain ⟨b9, o9, h1, h2, h3⟩ := (own_cellsS HS.out.2.2.1).1.at 0 (by omega)
              simp only [Option.some.injEq, Addr.mk.injEq, and_true] at h1
              obtain ⟨rfl, rfl⟩ := h1
              exact h2
            obtain ⟨k1, rfl⟩ : ∃ k1, K = k1 + 1 := ⟨K - 1, by omega⟩
            have e9 : k1 + 1 - 1 = k1 := by omega
            rw [e9] at hcell hJ hvx hlt1
            have HX := Lib.hid (And.intro hvx (And.intro hxc (And.intro hxl (And.intro hxm (And.intro hxt hX)))))
            have HJ := Lib.hid hJ
            clear hvx hxc hxl hxm hxt hX hJ hK0 hA e9
            have w9 : (((k1 + 1 : Nat) : Int) - 1) = (k1 : Int) := by omega
            by_cases h64 : 64 < X.length + A.length
            · have g1 : decide ((64 : Int) < ((X.length + A.length : Nat) : Int)) = true := decide_eq_true (by omega)
              have HL2 : Hid (LL = CC ++ [A]) := Lib.hid (by rw [HLL.out, HJ.out, if_pos h64])
              go_upto_region 17 with (fail)
              have Hoa := Lib.hid (own_ext HS.out.2.2.1 (Ext.alloc W (.cells #[.slice qh A.length ch] 22)))
              have Hba := Lib.hid ((Ext.alloc W (.cells #[.slice qh A.length ch] 22)).blk _ _ HS.out.2.1)
              have hza : w5.heap.size ≤ (W.alloc (.cells #[.slice qh A.length ch] 22)).heap.size := by
                obtain ⟨_, hlt⟩ := Array.getElem?_eq_some_iff.1 HK.out
                have := HD.out
                simp
                have := (Array.getElem?_eq_some_iff.1 HK.out).1
                omega
              go_wp2_with (at_builtin; go_must (refine wpList_appB (by rfl) (.tmp 66) (.tmp 68) 26 22 rfl w5.heap.size (.slice none 0 0) 1 24 Tryz.underlying26 infoSWs rfl (by decide) _ _ vs rfl Hoa.out ⟨W.heap.size, 0, none⟩ 1 1 [.slice qh A.length ch] rfl rfl (cells_blk (Blk.new W _)) (by intro u hu; simp at hu; subst hu; rfl) (by omega) (by decide) hza ?_; intro v8 w8 ho8 hg8 hb8; obtain ⟨q8, c8, rfl⟩ := own_slice ho8; have hk8 := Kc.of_grownB (n0 := wo.heap.size) (tc := fun b t => t = 22 ∧ w5.heap.size ≤ b) hg8 Hoa.out HE5.out.size hza (fun b hb => ⟨rfl, hb⟩); have hf8 := KeepsFrom.of_grown (B := w5.heap.size) hg8 Hoa.out; have hb9 := hk8.blk Hba.out (by rintro ⟨h, _⟩; exact absurd h (by decide)); have Hgk := Lib.hid (grown_keeps (E := 25) Hoa.out hg8 (by decide)); have c8' := (show w8.cell? ⟨wo.heap.size, 0, none⟩ = _ from Blk.val hb9 0 _ rfl); have f8 := (show w8.frozen? ⟨wo.heap.size, 0, none⟩ = false from Blk.free hb9 0); have l8 := Blk.lt hb9; have Ho8 := Lib.hid ho8; have Hk8 := Lib.hid hk8; have Hf8 := Lib.hid hf8; have Hb9 := Lib.hid hb9; clear ho8 hg8 hb8 hk8 hf8 hb9))
              have hc := Chg.setCell (w := w8) (g := wo.heap.size) (i := 0) (v := .slice q8 ((k1 + 1) + 1) c8)
              have hkd := (((KeepsFrom.of_ext (B := w5.heap.size) (Ext.alloc W (.cells #[.slice qh A.length ch] 22))).trans Hf8.out).trans (KeepsFrom.of_chg hc Hb9.out)).same _ _ HD.out HK.out rfl
              refine postM_mark hkd (results_tmp (t := 2) (by kernel_rfl) _ _ _) (HFin.out (w8.setCell ⟨wo.heap.size, 0, none⟩ (.slice q8 ((k1 + 1) + 1) c8)) (.slice q8 ((k1 + 1) + 1) c8) (vs ++ [.slice qh A.length ch]) (hc.ext (Ext.trans' ((HT.out.ext.trans HS.out.1).trans (Ext.alloc W _)) (below_mono0 Hk8.out.below HT.out.ext.size)) HT.out.ext.size) hkd (by rw [HL2.out, List.length_append, HKl.out]; exact own_le (own_chgT Ho8.out (by decide) Hb9.out hc) hw15) ?_)
              rw [HL2.out]
              exact SwVs.same (SwVs.same (SwVs.snoc (HS.out.2.2.2.1.ext (Ext.alloc W _)) (HZ.out.ext (Ext.alloc W _))) Hgk.out) (fun g cur hg => hc.blk hg (blk_ne hg Hb9.out (by decide)))
            · have g1 : decide ((64 : Int) < ((X.length + A.length : Nat) : Int)) = false := decide_eq_false (by omega)
              have HL2 : Hid (LL = CC.set k1 (A ++ X)) := Lib.hid (by rw [HLL.out, HJ.out, if_neg h64])
              go_upto_region 14 with (fail)
              have HJ0 : Hid (JAt wo.heap.size go (k1 + 1) co w5.heap.size wo.heap.size D vs CC W) := Lib.hid ⟨HS.out.2.1, HS.out.2.2.1, HS.out.2.2.2.1, HS.out.2.2.2.2, HK.out⟩
              have HZ0 : Hid (W.ownsRow w1.heap.size 25 2 (.slice qh A.length ch) A.length (swC A) ∧ Cells W qx (swC X)) := Lib.hid ⟨own_ext HT.out.oh HS.out.1, HX.out.2.1⟩
              have hzl : ∀ g, (Value.slice qh A.length ch).ownBlock = some g → g < wo.heap.size := fun g h => (HT.out.oh.lt g h).2
              have hzb : ∀ g, (Value.slice qh A.length ch).ownBlock = some g → w1.heap.size ≤ g := fun g h => own_base HT.out.oh h
              have Hvx := Lib.hid HX.out.1
              have HE15 := Lib.hid (HT.out.ext.trans HS.out.1)
              refine Pre.wp_region_pk 9 [(7, []), (8, [])] (HE15.out) (by kernel_rfl) (by kernel_rfl) (by kernel_rfl) (by kernel_rfl) (by kernel_rfl) (by kernel_rfl) (gok_st2 (z := (Value.slice qh A.length ch).ownBlock) _ w1 hzb) (prok_st2 (J := JAt wo.heap.size go (k1 + 1) co w5.heap.size wo.heap.size D vs CC) (Z := fun W => W.ownsRow w1.heap.size 25 2 (.slice qh A.length ch) A.length (swC A) ∧ Cells W qx (swC X)) (by kernel_rfl) (fun _ _ e h => h.ext e) (fun _ _ e h => ⟨own_ext h.1 e, h.2.ext e⟩) (fun _ _ hg h => h.grown hg hzl (Nat.le_refl _) HE5.out.size HD.out)) (fun p hp => by simp [pivB] at hp; rcases hp with rfl | rfl; (unfold PrSt; rw [if_pos rfl]; exact ⟨HJ0.out, HZ0.out⟩); (unfold PrSt; rw [if_neg (by decide)]; exact HJ0.out)) ?_
              simp only [List.take_succ_cons, List.take_zero, List.take_nil, List.drop_succ_cons, List.drop_zero, List.drop_nil, List.map_cons, List.map_nil]
              repeat (first
                | (refine Pre.wpPL_step (o := ⟨some 39, _, _, _, _, _⟩) (Is (.slice (some ⟨go, 0, none⟩) (k1 + 1) co)) (Is.stable _) (Pre.KeepsP.is _ _ _ _ _ _) (by kernel_rfl) (by first | exact .inl rfl | exact .inr ⟨_, _, _, rfl, rfl, rfl⟩) ?_ ?_
                   · intro a w' he0 hp hr K hK
                     have J := hp 8 (by kernel_rfl) (by kernel_rfl)
                     unfold PrSt at J
                     rw [if_neg (by decide)] at J
                     have c0 : w'.cell? ⟨wo.heap.size, 0, none⟩ = some (.slice (some ⟨go, 0, none⟩) (k1 + 1) co) := Blk.val J.box 0 _ rfl
                     have l0 := Blk.lt J.box
                     simp [Reads, Oper.looksAt, Op.operands, Call.operands, factAt, Is] at hr
                     go_simp
                     exact hK _ _ (Ext.refl _) rfl
                   simp only [setL, List.set_cons_succ, List.set_cons_zero])
                | (refine Pre.wpPL_step (o := ⟨some 42, _, _, _, _, _⟩) (Is (.slice (some ⟨go, 0, none⟩) (k1 + 1) co)) (Is.stable _) (Pre.KeepsP.is _ _ _ _ _ _) (by kernel_rfl) (by first | exact .inl rfl | exact .inr ⟨_, _, _, rfl, rfl, rfl⟩) ?_ ?_
                   · intro a w' he0 hp hr K hK
                     have J := hp 8 (by kernel_rfl) (by kernel_rfl)
                     unfold PrSt at J
                     rw [if_neg (by decide)] at J
                     have c0 : w'.cell? ⟨wo.heap.size, 0, none⟩ = some (.slice (some ⟨go, 0, none⟩) (k1 + 1) co) := Blk.val J.box 0 _ rfl
                     have l0 := Blk.lt J.box
                     simp [Reads, Oper.looksAt, Op.operands, Call.operands, factAt, Is] at hr
                     go_simp
                     exact hK _ _ (Ext.refl _) rfl
                   simp only [setL, List.set_cons_succ, List.set_cons_zero])
                | (refine Pre.wpPL_step (o := ⟨some 45, _, _, _, _, _⟩) (Is (.slice qx X.length cx)) (Is.stable _) (Pre.KeepsP.is _ _ _ _ _ _) (by kernel_rfl) (by first | exact .inl rfl | exact .inr ⟨_, _, _, rfl, rfl, rfl⟩) ?_ ?_
                   · intro a w' he0 hp hr K hK
                     have J := hp 8 (by kernel_rfl) (by kernel_rfl)
                     unfold PrSt at J
                     rw [if_neg (by decide)] at J
                     have c0 : w'.cell? ⟨go, k1, none⟩ = some (.slice qx X.length cx) := by
                       obtain ⟨b9, o9, h1, h2, h3⟩ := (own_cellsS J.row).1.at 0 (by omega)
                       have h4 := h3 k1 hlt1
                       simp only [Option.some.injEq, Addr.mk.injEq, and_true] at h1
                       obtain ⟨rfl, rfl⟩ := h1
                       rw [Nat.zero_add, Hvx.out] at h4
                       exact h4
                     have l0 : go < w'.heap.size := by
                       obtain ⟨b9, o9, h1, h2, h3⟩ := (own_cellsS J.row).1.at 0 (by omega)
                       simp only [Option.some.injEq, Addr.mk.injEq, and_true] at h1
                       obtain ⟨rfl, rfl⟩ := h1
                       exact h2
                     simp [Reads, Oper.looksAt, Op.operands, Call.operands, factAt, Is] at hr
                     go_simp
                     exact hK _ _ (Ext.refl _) rfl
                   simp only [setL, List.set_cons_succ, List.set_cons_zero])
                | (refine Pre.wpPL_pivot (o := ⟨some 46, _, _, _, _, _⟩) (RowsF 25 w1.heap.size 2 (A.length + X.length) (swC (A ++ X))) (RowsF.stable _ _ _ _ _) (fun x hx => by simp at hx; rcases hx with rfl | rfl; exact .inl (by kernel_rfl); exact .inr fun v w w' h hv => by unfold RSt at h; rw [if_neg (by decide)] at h; subst h; exact hv) (by kernel_rfl) (by first | exact .inl rfl | exact .inr ⟨_, _, _, rfl, rfl, rfl⟩) ?_ ?_
                   · intro a w' he0 hp hr K hK
                     have J := hp 7 (by kernel_rfl) (by kernel_rfl)
                     unfold PrSt at J
                     rw [if_pos rfl] at J
                     have h1 := hr 41 (by simp [Oper.looksAt, Op.operands, Call.operands])
                     have h2 := hr 45 (by simp [Oper.looksAt, Op.operands, Call.operands])
                     refine wp_appZ (.tmp 41) (.tmp 45) rfl w1.heap.size _ A.length _ h1 J.2.1 qx X.length cx (swC X) h2 (swC_len X) J.2.2 (swC_one _) (by omega) he0.size ?_
                     intro v' w'' ho' hg
                     obtain ⟨q', c', rfl⟩ := own_slice ho'
                     exact hK _ _ (by unfold RSt; rw [if_pos rfl]; exact ⟨he0.size, hg⟩) ⟨q', c', rfl, by rw [swC_app]; exact ho'⟩ (turned_any _ _ _ _)
                   simp only [setL, List.set_cons_succ, List.set_cons_zero])
                | (refine Pre.wpPL_pivot (o := ⟨some 47, _, _, _, _, _⟩) (JF wo.heap.size go (k1 + 1) co w5.heap.size wo.heap.size D k1 vs CC) (JF.stable _ _ _ _ _ _ _ _ _ _) (fun x hx => by simp at hx; rcases hx with rfl | rfl <;> exact .inl (by kernel_rfl)) (by kernel_rfl) (by first | exact .inl rfl | exact .inr ⟨_, _, _, rfl, rfl, rfl⟩) ?_ ?_
                   · intro a w' he0 hp hr K hK
                     have J := hp 8 (by kernel_rfl) (by kernel_rfl)
                     unfold PrSt at J
                     rw [if_neg (by decide)] at J
                     simp [Reads, Oper.looksAt, Op.operands, Call.operands, factAt, Is] at hr
                     go_simp
                     exact hK _ _ (by unfold RSt; rw [if_neg (by decide)]) ⟨rfl, J⟩ (turned_any _ _ _ _)
                   simp only [setL, List.set_cons_succ, List.set_cons_zero])
                | (refine Pre.wpPL_move _ _ (by kernel_rfl) (by first | exact .inl rfl | exact .inr ⟨_, _, _, rfl, rfl, rfl⟩) (by first | exact .inl rfl | exact .inr rfl) rfl (by first | exact Is.stable _ | exact RowsF.stable _ _ _ _ _ | exact NoneF.stable _ _ | exact Fresh.stable _ _ _ | exact AppF.stable _ | exact WrF.stable _ | exact PtrF.stable _ _ | exact PlF.stable _ _) (by first | exact Pre.KeepsP.is _ _ _ _ _ _ ) ?_
                   simp only [setL, List.set_cons_succ, List.set_cons_zero, List.getD_cons_succ, List.getD_cons_zero])
                | (apply Pre.wpPL_det (fun k v => Pre.KeepsP.is _ _ _ _ k v) (by kernel_rfl) (by first | exact .inl rfl | exact .inr ⟨_, _, _, rfl, rfl, rfl⟩)
                   · intro a w' he0 hp hr K hK
                     have he := (fun (_ : 0 = 0) (_ : 0 = 0) => he0) (by kernel_rfl) (by kernel_rfl)
                     simp [Reads, Oper.looksAt, Op.operands, Call.operands, factAt, Is] at hr
                     have hx := he.cell
                     go_simp
                     try go_bits
                     try (rw [if_neg (by omega)]; go_simp)
                     first
                       | exact hK _ (Ext.refl _)
                   simp only [setL, List.set_cons_succ, List.set_cons_zero]))
              intro w2 he2
              simp only [killL, killIn, List.foldl_cons, List.foldl_nil, List.set_cons_succ, List.set_cons_zero]
              repeat (first | with_reducible refine rest_is _ _ _ _ ?_ | (with_reducible refine rest_fact _ _ _ _ ?_; intro _ _) | with_reducible refine rest_end _ _ ?_)
              simp only [List.reverse_cons, List.reverse_nil, List.nil_append, List.cons_append]
              rename_i v46 hR46 v47 hJ47
              unfold JF at hJ47; obtain ⟨rfl, hJ⟩ := hJ47
              obtain ⟨q46, c46, rfl, ho46⟩ := hR46
              have HJw := Lib.hid hJ
              have HVw := Lib.hid (own_swv ho46 List.length_append)
              clear hJ ho46
              obtain ⟨cur0, hbk⟩ : ∃ cur0, Blk w2 go (.cells cur0 22) := by
                obtain ⟨_, ⟨hv0, _⟩ | ⟨g0, cap0, cur0, hv0, _, hbk, _⟩⟩ := HJw.out.row
                · cases hv0
                · cases hv0
                  exact ⟨cur0, hbk⟩
              have hgw : w5.heap.size ≤ go := own_base HJw.out.row (g := go) rfl
              obtain ⟨u4, c4⟩ : ∃ u4, w2.cell? ⟨go, k1, none⟩ = some u4 := by
                obtain ⟨b9, o9, h1, h2, h3⟩ := (own_cellsS HJw.out.row).1.at 0 (by omega)
                have h4 := h3 k1 hlt1
                simp only [Option.some.injEq, Addr.mk.injEq, and_true] at h1
                obtain ⟨rfl, rfl⟩ := h1
                rw [Nat.zero_add] at h4
                exact ⟨_, h4⟩
              have l4 := Blk.lt hbk
              have f4 : w2.frozen? ⟨go, k1, none⟩ = false := Blk.free hbk k1
              have hne : wo.heap.size ≠ go := blk_ne HJw.out.box hbk (by decide)
              have hc := Chg.setCell (w := w2) (g := go) (i := k1) (v := .slice q46 (A.length + X.length) c46)
              have hb9 := hc.blk HJw.out.box hne
              have c9 : (w2.setCell ⟨go, k1, none⟩ (.slice q46 (A.length + X.length) c46)).cell? ⟨wo.heap.size, 0, none⟩ = some (.slice (some ⟨go, 0, none⟩) (k1 + 1) co) := Blk.val hb9 0 _ rfl
              have f9 := Blk.free hb9 0
              have l9 := Blk.lt hb9
              have Hbk := Lib.hid hbk
              have Hc := Lib.hid hc
              clear hbk hc hb9
              go_wp2_with fail
              have hkd := (KeepsFrom.of_chg (B := w5.heap.size) Hc.out Hbk.out).same _ _ HD.out HJw.out.dfr rfl
              refine postM_mark hkd (results_tmp (t := 2) (by kernel_rfl) _ _ _) (HFin.out (w2.setCell ⟨go, k1, none⟩ (.slice q46 (A.length + X.length) c46)) (.slice (some ⟨go, 0, none⟩) (k1 + 1) co) (vs.set k1 (.slice q46 (A.length + X.length) c46)) (Hc.out.ext he2 (by omega)) hkd (by rw [HL2.out, List.length_set, HKl.out]; exact own_le (own_set1 HJw.out.row (by omega)) hw15) ?_)
              rw [HL2.out]
              exact ((HJw.out.sws.set HVw.out)).same (fun g cur hg => Hc.out.blk hg (fun e => absurd e (blk_ne hg Hbk.out (by decide))))
end Go.Proofs.YtmnpappbacndlaaGreatDoor
