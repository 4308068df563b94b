/- The walk of node.Split. -/
import Derived.Test.YtolmoknjmdmpgaaGreatAL
set_option linter.unusedSimpArgs false
set_option linter.unusedVariables false
namespace Dsd
/-- The two halves of a node, the bound between them, and the error. -/
def splitNd (n : Nd) : Nd × Nd × List UInt8 × Int :=
  if nodeB n = false then (Nd.zero, Nd.zero, [], 1)
  else if n.ents.length = 1 then (Nd.zero, Nd.zero, [], 9)
  else (⟨n.level, 0, clrL (n.ents.take ((n.ents.length + 1) / 2))⟩, ⟨n.level, n.next, n.ents.drop ((n.ents.length + 1) / 2)⟩, (entAt n.ents ((n.ents.length + 1) / 2 - 1)).1, 0)
theorem entCells_cons (x : Ent) (L : List Ent) : entCells (x :: L) = .string ⟨x.1.toArray⟩ :: .int .i64 x.2 :: entCells L := rfl
theorem entCells_take : ∀ (L : List Ent) (k : Nat), entCells (L.take k) = (entCells L).take (k * 2)
  | [], k => by simp [entCells]
  | x :: L, 0 => by simp [entCells]
  | x :: L, k + 1 => by rw [List.take_succ_cons, entCells_cons, entCells_cons, entCells_take L k, show (k + 1) * 2 = k * 2 + 1 + 1 by omega, List.take_succ_cons, List.take_succ_cons]
theorem entCells_drop : ∀ (L : List Ent) (k : Nat), entCells (L.drop k) = (entCells L).drop (k * 2)
  | [], k => by simp [entCells]
  | x :: L, 0 => by simp [entCells]
  | x :: L, k + 1 => by rw [List.drop_succ_cons, entCells_cons, entCells_drop L k, show (k + 1) * 2 = k * 2 + 1 + 1 by omega, List.drop_succ_cons, List.drop_succ_cons]
theorem entCells_bel : ∀ (L : List Ent) (i : Nat) (s : List UInt8), i < L.length → entCells (L.set i (s, (entAt L i).2)) = (entCells L).set (i * 2) (.string ⟨s.toArray⟩)
  | x :: L, 0, s, _ => by simp [entCells, entAt]
  | x :: L, i + 1, s, h => by
    have ih := entCells_bel L i s (by simpa using h)
    rw [List.set_cons_succ, entCells_cons, entCells_cons, show (i + 1) * 2 = i * 2 + 1 + 1 by omega, List.set_cons_succ, List.set_cons_succ]
    have e : entAt (x :: L) (i + 1) = entAt L i := by simp [entAt]
    rw [e, ih]
theorem entCells_clr (L : List Ent) (K : Nat) (h0 : 1 ≤ K) (h1 : K < L.length) : entCells (clrL (L.take K)) = ((entCells L).take (K * 2)).set ((K - 1) * 2) (.string ⟨#[]⟩) := by
  have hl : (L.take K).length = K := by rw [List.length_take]; omega
  rw [clrL_set, hl, entCells_bel _ _ _ (by omega), entCells_take]
end Dsd
namespace Go.Proofs.YtolmoknjmdmpgaaGreat
open Go.RowKit Dsd
theorem results_rows2 {P : Program} {fn : Func} {p r t1 t2 : Tmp} {ty ty2 : TypeId} (h : fn.results = #[.cell p ty, .cell r ty2, .tmp t1, .tmp t2]) (tmps : Array Value) (w : World) (g g2 : Nat) (t t3 : TypeId) (cs cs2 : Array Value) (d d2 : TypeDesc)
    (hp : tmps.getD p undef = .pointer (some ⟨g, 0, none⟩)) (hg : Blk w g (.cells cs t)) (hu : P.underlying ty = some d) (hd : (match d with | .struct _ | .array _ _ => true | _ => false) = true) (hi : (P.info? ty).map (·.size) = some cs.size)
    (hp2 : tmps.getD r undef = .pointer (some ⟨g2, 0, none⟩)) (hg2 : Blk w g2 (.cells cs2 t3)) (hu2 : P.underlying ty2 = some d2) (hd2 : (match d2 with | .struct _ | .array _ _ => true | _ => false) = true) (hi2 : (P.info? ty2).map (·.size) = some cs2.size) :
    (results fn tmps).run P w = .ok (.tuple #[.agg cs, .agg cs2, tmps.getD t1 undef, tmps.getD t2 undef]) w := by
  have hp' : tmps[p]?.getD undef = .pointer (some ⟨g, 0, none⟩) := by simpa using hp
  have hp2' : tmps[r]?.getD undef = .pointer (some ⟨g2, 0, none⟩) := by simpa using hp2
  have hlr := run_loadVar_row w g t ty cs (0, 0) d hg hu hd hi
  have hlr2 := run_loadVar_row w g2 t3 ty2 cs2 (0, 0) d2 hg2 hu2 hd2 hi2
  simp [results, h, hp', hp2', asAddr, hlr, hlr2, Sem.run_bind]
def six (w : World) (a b : Nat) (x0 x1 x2 y0 y1 y2 : Value) : World :=
  (((((w.setCell ⟨a, 0, none⟩ x0).setCell ⟨a, 1, none⟩ x1).setCell ⟨a, 2, none⟩ x2).setCell ⟨b, 0, none⟩ y0).setCell ⟨b, 1, none⟩ y1).setCell ⟨b, 2, none⟩ y2
theorem six_rows {w : World} {a b : Nat} {t : TypeId} {o0 o1 o2 p0 p1 p2 : Value} (ha : Blk w a (.cells #[o0, o1, o2] t)) (hb : Blk w b (.cells #[p0, p1, p2] t)) (hne : a ≠ b) (x0 x1 x2 y0 y1 y2 : Value) :
    Blk (six w a b x0 x1 x2 y0 y1 y2) a (.cells #[x0, x1, x2] t) ∧ Blk (six w a b x0 x1 x2 y0 y1 y2) b (.cells #[y0, y1, y2] t) ∧ ∀ w0, Ext w0 w → w0.heap.size ≤ a → w0.heap.size ≤ b → Ext w0 (six w a b x0 x1 x2 y0 y1 y2) := by
  have hA : Chg a w (((w.setCell ⟨a, 0, none⟩ x0).setCell ⟨a, 1, none⟩ x1).setCell ⟨a, 2, none⟩ x2) := (Chg.setCell.trans Chg.setCell).trans Chg.setCell
  have hB : Chg b (((w.setCell ⟨a, 0, none⟩ x0).setCell ⟨a, 1, none⟩ x1).setCell ⟨a, 2, none⟩ x2) (six w a b x0 x1 x2 y0 y1 y2) := (Chg.setCell.trans Chg.setCell).trans Chg.setCell
  have h1 := Blk.setCell (i := 2) (v := x2) (Blk.setCell (i := 1) (v := x1) (Blk.setCell (i := 0) (v := x0) ha))
  have h2 := Blk.setCell (i := 2) (v := y2) (Blk.setCell (i := 1) (v := y1) (Blk.setCell (i := 0) (v := y0) (hA.blk hb (Ne.symm hne))))
  exact ⟨hB.blk h1 hne, h2, fun w0 e g1 g2 => hB.ext (hA.ext e g1) g2⟩
theorem cells_chgO {w w' : World} {g b o : Nat} {xs : List Value} (h : Cells w (some ⟨g, o, none⟩) xs) (hne : g ≠ b) (c : Chg b w w') : Cells w' (some ⟨g, o, none⟩) xs := by
  rcases h with h | ⟨b', o', hq, hl, hc⟩
  · exact .inl h
  · simp only [Option.some.injEq, Addr.mk.injEq, and_true] at hq
    obtain ⟨rfl, rfl⟩ := hq
    refine .inr ⟨g, o, rfl, by rw [c.size]; exact hl, fun i hi => ?_⟩
    rw [← hc i hi]
    simp only [World.cell?, c.block g hne]
theorem six_cells {w : World} {a b g o : Nat} {xs : List Value} (h : Cells w (some ⟨g, o, none⟩) xs) (ha : g ≠ a) (hb : g ≠ b) (x0 x1 x2 y0 y1 y2 : Value) : Cells (six w a b x0 x1 x2 y0 y1 y2) (some ⟨g, o, none⟩) xs :=
  cells_chgO (cells_chgO h ha ((Chg.setCell.trans Chg.setCell).trans Chg.setCell)) hb ((Chg.setCell.trans Chg.setCell).trans Chg.setCell)
theorem six_blk {w : World} {a b g : Nat} {ob : Obj} (h : Blk w g ob) (ha : g ≠ a) (hb : g ≠ b) (x0 x1 x2 y0 y1 y2 : Value) : Blk (six w a b x0 x1 x2 y0 y1 y2) g ob :=
  ((Chg.setCell.trans Chg.setCell).trans Chg.setCell : Chg b _ _).blk (((Chg.setCell.trans Chg.setCell).trans Chg.setCell : Chg a _ _).blk h ha) hb
def SplOut (w : World) (R : Nd × Nd × List UInt8 × Int) (e : Ending) (w' : World) : Prop :=
  Ext w w' ∧ ∃ q1 c1 q2 c2, e = .returned (.tuple #[ndV R.1 q1 c1, ndV R.2.1 q2 c2, .string ⟨R.2.2.1.toArray⟩, .int .i64 R.2.2.2]) ∧ Nents w' q1 R.1.ents ∧ Nents w' q2 R.2.1.ents ∧ R.1.ents.length ≤ c1 ∧ R.2.1.ents.length ≤ c2 ∧
  (R.2.2.2 = 0 → ∃ g cur, w.heap.size ≤ g ∧ q1 = some ⟨g, 0, none⟩ ∧ q2 = some ⟨g, R.1.ents.length * 2, none⟩ ∧ Blk w' g (.cells cur 75) ∧ cur.toList.take ((R.1.ents.length + R.2.1.ents.length) * 2) = entCells R.1.ents ++ entCells R.2.1.ents)
set_option maxRecDepth 100000 in
set_option maxHeartbeats 2000000 in
theorem SplitN_any (q : Option Addr) (c : Nat) (n : Nd) (w : World) (h : Nents w q n.ents) (hl : n.ents.length ≤ 1000000) (hcap : n.ents.length ≤ c) :
    Calls Tryz.prog 70 #[ndV n q c] w (SplOut w (splitNd n)) := by
  have Hn := Lib.hid h
  have HP := Lib.hid (fun W (e : Ext w W) => plainN_any q c n W (h.ext e) hl)
  have HR : Hid (splitNd n = if nodeB n = false then (Nd.zero, Nd.zero, [], 1)
    else if n.ents.length = 1 then (Nd.zero, Nd.zero, [], 9)
    else (⟨n.level, 0, clrL (n.ents.take ((n.ents.length + 1) / 2))⟩, ⟨n.level, n.next, n.ents.drop ((n.ents.length + 1) / 2)⟩, (entAt n.ents ((n.ents.length + 1) / 2 - 1)).1, 0)) := Lib.hid rfl
  have HZ : Hid (∀ w w' : World, ∀ c : Int, Ext w w' → c ≠ 0 → SplOut w (Nd.zero, Nd.zero, [], c) (.returned (.tuple #[.agg #[.int .i64 0, .int .i64 0, .slice none 0 0], .agg #[.int .i64 0, .int .i64 0, .slice none 0 0], .string ⟨#[]⟩, .int .i64 c])) w') := Lib.hid (fun w w' c he hc => ⟨he, none, 0, none, 0, rfl, .inl rfl, .inl rfl, Nat.le_refl _, Nat.le_refl _, fun h => absurd h hc⟩)
  generalize splitNd n = R at *
  unfold ndV at HP ⊢
  have hb0 : Blk (w.alloc (.cells #[.int .i64 n.level, .int .i64 n.next, .slice q n.ents.length c] 53)) w.heap.size (.cells #[.int .i64 n.level, .int .i64 n.next, .slice q n.ents.length c] 53) := Blk.new w _
  go_enter Tryz.func70, Tryz.ntmps70
  go_upto_region 1 with (fail)
  refine wp_name (fun w0 => Ext w w0 ∧ Blk w0 w.heap.size (.cells #[.int .i64 n.level, .int .i64 n.next, .slice q n.ents.length c] 53) ∧ Blk w0 (w.heap.size + 1) (.cells #[.int .i64 0, .int .i64 0, .slice none 0 0] 53) ∧ Blk w0 (w.heap.size + 2) (.cells #[.int .i64 0, .int .i64 0, .slice none 0 0] 53)) ⟨((Ext.alloc _ _).trans (Ext.alloc _ _)).trans (Ext.alloc _ _), Blk.alloc (Blk.alloc hb0 _) _, Blk.alloc (by simpa using Blk.new (w.alloc (.cells #[.int .i64 n.level, .int .i64 n.next, .slice q n.ents.length c] 53)) (.cells #[.int .i64 0, .int .i64 0, .slice none 0 0] 53)) _, by simpa using Blk.new ((w.alloc (.cells #[.int .i64 n.level, .int .i64 n.next, .slice q n.ents.length c] 53)).alloc (.cells #[.int .i64 0, .int .i64 0, .slice none 0 0] 53)) (.cells #[.int .i64 0, .int .i64 0, .slice none 0 0] 53)⟩ ?_
  clear hb0 h
  rintro w0 ⟨he0, hb0, hb1, hb2⟩
  have HP0 := Lib.hid (HP.out w0 he0)
  have HE0 := Lib.hid he0
  have HB1 := Lib.hid hb1
  have HB2 := Lib.hid hb2
  have HB0 := Lib.hid hb0
  have c0 := Blk.val hb0 0 _ rfl
  have c1 := Blk.val hb0 1 _ rfl
  have c2 := Blk.val hb0 2 _ rfl
  have hlt0 := Blk.lt hb0
  clear HP he0 hb0 hb1 hb2
  cases hnb : nodeB n
  · rw [hnb] at HP0
    rw [if_pos hnb] at HR
    go_upto_region 2 with (go_at_call 81; refine HP0.out.mono ?_; rintro e w1 ⟨rfl, he1⟩)
    have hb1 := he1.blk _ _ HB1.out
    have hb2 : Blk w1 (w.heap.size + 1 + 1) (.cells #[.int .i64 0, .int .i64 0, .slice none 0 0] 53) := he1.blk _ _ HB2.out
    have d0 := Blk.val hb1 0 _ rfl
    have d1 := Blk.val hb1 1 _ rfl
    have d2 := Blk.val hb1 2 _ rfl
    have f0 := Blk.free hb1 0
    have f1 := Blk.free hb1 1
    have f2 := Blk.free hb1 2
    have hlt1 := Blk.lt hb1
    have d3 := Blk.val hb2 0 _ rfl
    have d4 := Blk.val hb2 1 _ rfl
    have d5 := Blk.val hb2 2 _ rfl
    have f3 := Blk.free hb2 0
    have f4 := Blk.free hb2 1
    have f5 := Blk.free hb2 2
    have hlt2 := Blk.lt hb2
    have H6 := Lib.hid (six_rows hb1 hb2 (by omega) (.int .i64 0) (.int .i64 0) (.slice none 0 0) (.int .i64 0) (.int .i64 0) (.slice none 0 0))
    go_wp2_with fail
    exact bodyPost_ret (results_rows2 Tryz.results70 _ _ _ _ _ _ _ _ _ _ rfl H6.out.1 ndDesc rfl ndSize rfl H6.out.2.1 ndDesc rfl ndSize) rfl (by rw [HR.out]; exact HZ.out _ _ _ (H6.out.2.2 w (HE0.out.trans he1) (by omega) (by omega)) (by decide))
  · rw [hnb] at HP0
    rw [if_neg (by rw [hnb]; simp)] at HR
    have Hnb := Lib.hid hnb
    clear hnb
    by_cases a1 : n.ents.length = 1
    · rw [if_pos a1] at HR
      have i1 : ((n.ents.length : Int) == 1) = true := by simp; omega
      clear a1
      go_upto_region 4 with (go_at_call 81; refine HP0.out.mono ?_; rintro e w1 ⟨rfl, he1⟩; have c2' := Blk.val (he1.blk _ _ HB0.out) 2 _ rfl; have hl' := Blk.lt (he1.blk _ _ HB0.out))
      have hb1 := he1.blk _ _ HB1.out
      have hb2 : Blk w1 (w.heap.size + 1 + 1) (.cells #[.int .i64 0, .int .i64 0, .slice none 0 0] 53) := he1.blk _ _ HB2.out
      have d0 := Blk.val hb1 0 _ rfl
      have d1 := Blk.val hb1 1 _ rfl
      have d2 := Blk.val hb1 2 _ rfl
      have f0 := Blk.free hb1 0
      have f1 := Blk.free hb1 1
      have f2 := Blk.free hb1 2
      have hlt1 := Blk.lt hb1
      have d3 := Blk.val hb2 0 _ rfl
      have d4 := Blk.val hb2 1 _ rfl
      have d5 := Blk.val hb2 2 _ rfl
      have f3 := Blk.free hb2 0
      have f4 := Blk.free hb2 1
      have f5 := Blk.free hb2 2
      have hlt2 := Blk.lt hb2
      have H6 := Lib.hid (six_rows hb1 hb2 (by omega) (.int .i64 0) (.int .i64 0) (.slice none 0 0) (.int .i64 0) (.int .i64 0) (.slice none 0 0))
      go_wp2_with fail
      exact bodyPost_ret (results_rows2 Tryz.results70 _ _ _ _ _ _ _ _ _ _ rfl H6.out.1 ndDesc rfl ndSize rfl H6.out.2.1 ndDesc rfl ndSize) rfl (by rw [HR.out]; exact HZ.out _ _ _ (H6.out.2.2 w (HE0.out.trans he1) (by omega) (by omega)) (by decide))
    · rw [if_neg a1] at HR
      have i1 : ((n.ents.length : Int) == 1) = false := by simp; omega
      have Ha1 := Lib.hid a1
      clear a1
      go_upto_region 5 with (go_at_call 81; refine HP0.out.mono ?_; rintro e w1 ⟨rfl, he1⟩; have c2' := Blk.val (he1.blk _ _ HB0.out) 2 _ rfl; have hl' := Blk.lt (he1.blk _ _ HB0.out))
      obtain ⟨m1, m2, m3⟩ := nodeB_ents Hnb.out
      have hbn := he1.blk _ _ HB0.out
      have HCl := Lib.hid (CloneE_any q c n.ents.length (entCells n.ents) w1 (Hn.out.ext (HE0.out.trans he1)) (entCells_len _) (entCells_one _) hl (by
        intro hq
        subst hq
        rcases Hn.out with h | ⟨_, _, h, _⟩
        · have := congrArg List.length h
          rw [entCells_len] at this
          simp at this; omega
        · cases h))
      have eK : ((n.ents.length : Int) + 1) / 2 = ((((n.ents.length + 1) / 2 : Nat)) : Int) := by omega
      have hK1 : (n.ents.length + 1) / 2 < n.ents.length := by have := Ha1.out; omega
      have hK0 : 1 ≤ (n.ents.length + 1) / 2 := by omega
      go_upto_region 6 with fail
      rw [eK]
      generalize (n.ents.length + 1) / 2 = K at *
      clear eK
      have k2 := Blk.val hbn 2 _ rfl
      have hlk := Blk.lt hbn
      go_upto_region 7 with (go_at_call 61; refine HCl.out.mono ?_; rintro e w2 ⟨he2, v2, rfl, ho2⟩)
      obtain ⟨q2, c2, rfl⟩ := own_slice ho2
      obtain ⟨g, cur, rfl, hg0, hgb, hnc, hcm, hcz, htk⟩ := own_parts ho2 (by omega)
      have hbn2 := he2.blk _ _ hbn
      have k3 := Blk.val hbn2 0 _ rfl
      have k4 := Blk.val hbn2 1 _ rfl
      have k5 := Blk.val hbn2 2 _ rfl
      have hlk2 := Blk.lt hbn2
      go_region
      · go_upto_region 8 with (fail)
        have gA : g ≠ w2.heap.size := by have := Blk.lt hgb; omega
        have gB : g ≠ (w2.heap.size + 1) := by have := Blk.lt hgb; omega
        have hAB : w2.heap.size ≠ (w2.heap.size + 1) := by omega
        refine wp_name (fun w3 => Ext w2 w3 ∧ Blk w3 w2.heap.size (.cells #[.int .i64 n.level, .int .i64 n.next, .slice q n.ents.length c] 53) ∧ Blk w3 (w2.heap.size + 1) (.cells #[.int .i64 n.level, .int .i64 n.next, .slice q n.ents.length c] 53)) ⟨Ext.drew _ |> fun e => ((Ext.alloc _ _).trans (Ext.alloc _ _)).trans e, (Ext.drew _).blk _ _ (Blk.alloc (Blk.new _ _) _), (Ext.drew _).blk _ _ (by simpa using Blk.new (w2.alloc (.cells #[.int .i64 n.level, .int .i64 n.next, .slice q n.ents.length c] 53)) (.cells #[.int .i64 n.level, .int .i64 n.next, .slice q n.ents.length c] 53))⟩ ?_
        rintro w3 ⟨he3, hA, hB⟩
        have hg3 := he3.blk _ _ hgb
        have a0 := Blk.val hA 2 _ rfl
        have a1 := Blk.val hB 2 _ rfl
        have la := Blk.lt hA
        have lb := Blk.lt hB
        have f0 := Blk.free hA 2
        have f1 := Blk.free hB 2
        have kc : K ≤ c2 := by omega
        have kn : K ≤ n.ents.length := by omega
        go_region
        go_upto_region 9 with (fail)
        have hle : w2.heap.size ≤ w2.heap.size ∧ w2.heap.size ≤ (w2.heap.size + 1) := by omega
        have cA : Chg w2.heap.size w3 (w3.setCell ⟨w2.heap.size, 2, none⟩ (.slice (some ⟨g, 0, none⟩) K K)) := Chg.setCell
        have cB : Chg (w2.heap.size + 1) (w3.setCell ⟨w2.heap.size, 2, none⟩ (.slice (some ⟨g, 0, none⟩) K K)) ((w3.setCell ⟨w2.heap.size, 2, none⟩ (.slice (some ⟨g, 0, none⟩) K K)).setCell ⟨(w2.heap.size + 1), 2, none⟩ (.slice (some ⟨g, K * 2, none⟩) (n.ents.length - K) (c2 - K))) := Chg.setCell
        refine wp_name (fun w4 => Ext w2 w4 ∧ Blk w4 w2.heap.size (.cells #[.int .i64 n.level, .int .i64 n.next, .slice (some ⟨g, 0, none⟩) K K] 53) ∧ Blk w4 (w2.heap.size + 1) (.cells #[.int .i64 n.level, .int .i64 n.next, .slice (some ⟨g, K * 2, none⟩) (n.ents.length - K) (c2 - K)] 53) ∧ Blk w4 g (.cells cur 75))
          ⟨(cB.ext (cA.ext he3 hle.1) hle.2).trans (Ext.drew _), (Ext.drew _).blk _ _ (cB.blk (Blk.setCell (i := 2) hA) hAB), (Ext.drew _).blk _ _ (Blk.setCell (i := 2) (cA.blk hB hAB.symm)), (Ext.drew _).blk _ _ (cB.blk (cA.blk hg3 gA) gB)⟩ ?_
        clear cA cB hA hB hg3 a0 a1 la lb f0 f1 he3
        rintro w4 ⟨he4, hA, hB, hg4⟩
        have a1 := Blk.val hA 1 _ rfl
        have f1 := Blk.free hA 1
        have la := Blk.lt hA
        have hcs : (K - 1) * 2 < cur.size := by omega
        have hval : cur[(K - 1) * 2]? = some (.string ⟨(entAt n.ents (K - 1)).1.toArray⟩) := by
          have h := (entCells_at n.ents (K - 1) (by omega)).1
          rw [← htk, List.getElem?_take_of_lt (by omega), Array.getElem?_toList] at h
          exact h
        have hcell := Blk.val hg4 _ _ hval
        have hfr := Blk.free hg4 ((K - 1) * 2)
        have lg := Blk.lt hg4
        have i3 : (K : Int) - 1 = ((K - 1 : Nat) : Int) := by omega
        have i4 : ((K - 1 : Nat) : Int) < (n.ents.length : Int) := by omega
        have gA' : ¬ w2.heap.size = g := fun e => gA e.symm
        go_upto_region 12 with (fail)
        have hr1 := Blk.lt HB1.out
        have hr2 := Blk.lt HB2.out
        have sz1 := he1.size
        have sz2 := he2.size
        have sz0 := HE0.out.size
        have cA : Chg w2.heap.size w4 (w4.setCell ⟨w2.heap.size, 1, none⟩ (.int .i64 0)) := Chg.setCell
        have cG : Chg g (w4.setCell ⟨w2.heap.size, 1, none⟩ (.int .i64 0)) ((w4.setCell ⟨w2.heap.size, 1, none⟩ (.int .i64 0)).setCell ⟨g, (K - 1) * 2, none⟩ (.string ⟨#[]⟩)) := Chg.setCell
        have hgN := Blk.setCell (i := (K - 1) * 2) (v := .string ⟨#[]⟩) (cA.blk hg4 gA)
        refine wp_name (fun w5 => Ext w w5 ∧ Blk w5 w2.heap.size (.cells #[.int .i64 n.level, .int .i64 0, .slice (some ⟨g, 0, none⟩) K K] 53) ∧ Blk w5 (w2.heap.size + 1) (.cells #[.int .i64 n.level, .int .i64 n.next, .slice (some ⟨g, K * 2, none⟩) (n.ents.length - K) (c2 - K)] 53) ∧ Cells w5 (some ⟨g, 0, none⟩) (entCells (clrL (n.ents.take K))) ∧ Cells w5 (some ⟨g, K * 2, none⟩) (entCells (n.ents.drop K)) ∧ Blk w5 g (.cells (cur.setIfInBounds ((K - 1) * 2) (.string ⟨#[]⟩)) 75) ∧ Blk w5 (w.heap.size + 1) (.cells #[.int .i64 0, .int .i64 0, .slice none 0 0] 53) ∧ Blk w5 (w.heap.size + 1 + 1) (.cells #[.int .i64 0, .int .i64 0, .slice none 0 0] 53))
          ⟨cG.ext (cA.ext (((HE0.out.trans he1).trans he2).trans he4) (by omega)) (by omega), cG.blk (Blk.setCell (i := 1) hA) (fun e => gA e.symm), cG.blk (cA.blk hB hAB.symm) (fun e => gB e.symm),
            cells_take (n := K * 2) hgN (by rw [Array.toList_setIfInBounds, List.take_set, entCells_clr _ _ hK0 hK1, ← htk, List.take_take, Nat.min_eq_left (by omega)]),
            by
              have h := Cells.drop (cells_take (n := n.ents.length * 2) (xs := (entCells n.ents).set ((K - 1) * 2) (.string ⟨#[]⟩)) hgN (by rw [Array.toList_setIfInBounds, List.take_set, htk])) (K * 2)
              rw [Nat.zero_add, List.drop_set_of_lt (by omega), ← entCells_drop] at h
              exact h,
            hgN, cG.blk (cA.blk (he4.blk _ _ (he2.blk _ _ (he1.blk _ _ HB1.out))) (by omega)) (by omega), cG.blk (cA.blk (he4.blk _ _ (he2.blk _ _ (he1.blk _ _ HB2.out))) (by omega)) (by omega)⟩ ?_
        clear hgN cA cG hA hB hg4 hcell hfr lg a1 f1 la hval he4
        rintro w5 ⟨he5, hA, hB, hC1, hC2, hg5, hR1, hR2⟩
        have a0 := Blk.val hA 0 _ rfl
        have a1 := Blk.val hA 1 _ rfl
        have a2 := Blk.val hA 2 _ rfl
        have b0 := Blk.val hB 0 _ rfl
        have b1 := Blk.val hB 1 _ rfl
        have b2 := Blk.val hB 2 _ rfl
        have r0 := Blk.val hR1 0 _ rfl
        have r1 := Blk.val hR1 1 _ rfl
        have r2 := Blk.val hR1 2 _ rfl
        have s0 := Blk.val hR2 0 _ rfl
        have s1 := Blk.val hR2 1 _ rfl
        have s2 := Blk.val hR2 2 _ rfl
        have f0 := Blk.free hR1 0
        have f1 := Blk.free hR1 1
        have f2 := Blk.free hR1 2
        have g0 := Blk.free hR2 0
        have g1 := Blk.free hR2 1
        have g2 := Blk.free hR2 2
        have l1 := Blk.lt hA
        have l2 := Blk.lt hB
        have l3 := Blk.lt hR1
        have l4 := Blk.lt hR2
        go_region
        all_goals
          go_wp2_with fail
          have H6 := six_rows hR1 hR2 (by omega) (.int .i64 n.level) (.int .i64 0) (.slice (some ⟨g, 0, none⟩) K K) (.int .i64 n.level) (.int .i64 n.next) (.slice (some ⟨g, K * 2, none⟩) (n.ents.length - K) (c2 - K))
          have l1 : (clrL (n.ents.take K)).length = K := by rw [clrL_len, List.length_take]; omega
          have l2 : (n.ents.drop K).length = n.ents.length - K := List.length_drop
          exact bodyPost_ret (results_rows2 Tryz.results70 _ _ _ _ _ _ _ _ _ _ rfl ((Ext.drew _).blk _ _ H6.1) ndDesc rfl ndSize rfl ((Ext.drew _).blk _ _ H6.2.1) ndDesc rfl ndSize) rfl (by
            rw [HR.out]
            refine ⟨(H6.2.2 w he5 (by omega) (by omega)).trans (Ext.drew _), some ⟨g, 0, none⟩, K, some ⟨g, K * 2, none⟩, c2 - K, ?_, Cells.ext (six_cells hC1 (by omega) (by omega) _ _ _ _ _ _) (Ext.drew _), Cells.ext (six_cells hC2 (by omega) (by omega) _ _ _ _ _ _) (Ext.drew _), by rw [l1]; exact Nat.le_refl _, by rw [l2]; omega, fun _ => ⟨g, cur.setIfInBounds ((K - 1) * 2) (.string ⟨#[]⟩), by omega, rfl, by rw [l1], (Ext.drew _).blk _ _ (six_blk hg5 (by omega) (by omega) _ _ _ _ _ _), ?_⟩⟩
            · simp only [ndV, l1, l2]
              rfl
            · rw [l1, l2, show K + (n.ents.length - K) = n.ents.length by omega, entCells_clr _ _ hK0 hK1, entCells_drop, Array.toList_setIfInBounds, List.take_set, htk]
              conv => lhs; rw [← List.take_append_drop (K * 2) (entCells n.ents)]
              rw [List.set_append_left _ _ (by rw [List.length_take, entCells_len]; omega)])
      · go_upto_region 8 with (fail)
        have gA : g ≠ (w2.heap.size + 1) := by have := Blk.lt hgb; omega
        have gB : g ≠ w2.heap.size := by have := Blk.lt hgb; omega
        have hAB : (w2.heap.size + 1) ≠ w2.heap.size := by omega
        refine wp_name (fun w3 => Ext w2 w3 ∧ Blk w3 (w2.heap.size + 1) (.cells #[.int .i64 n.level, .int .i64 n.next, .slice q n.ents.length c] 53) ∧ Blk w3 w2.heap.size (.cells #[.int .i64 n.level, .int .i64 n.next, .slice q n.ents.length c] 53)) ⟨Ext.drew _ |> fun e => ((Ext.alloc _ _).trans (Ext.alloc _ _)).trans e, (Ext.drew _).blk _ _ (by simpa using Blk.new (w2.alloc (.cells #[.int .i64 n.level, .int .i64 n.next, .slice q n.ents.length c] 53)) (.cells #[.int .i64 n.level, .int .i64 n.next, .slice q n.ents.length c] 53)), (Ext.drew _).blk _ _ (Blk.alloc (Blk.new _ _) _)⟩ ?_
        rintro w3 ⟨he3, hA, hB⟩
        have hg3 := he3.blk _ _ hgb
        have a0 := Blk.val hA 2 _ rfl
        have a1 := Blk.val hB 2 _ rfl
        have la := Blk.lt hA
        have lb := Blk.lt hB
        have f0 := Blk.free hA 2
        have f1 := Blk.free hB 2
        have kc : K ≤ c2 := by omega
        have kn : K ≤ n.ents.length := by omega
        go_region
        go_upto_region 9 with (fail)
        have hle : w2.heap.size ≤ (w2.heap.size + 1) ∧ w2.heap.size ≤ w2.heap.size := by omega
        have cA : Chg (w2.heap.size + 1) w3 (w3.setCell ⟨(w2.heap.size + 1), 2, none⟩ (.slice (some ⟨g, 0, none⟩) K K)) := Chg.setCell
        have cB : Chg w2.heap.size (w3.setCell ⟨(w2.heap.size + 1), 2, none⟩ (.slice (some ⟨g, 0, none⟩) K K)) ((w3.setCell ⟨(w2.heap.size + 1), 2, none⟩ (.slice (some ⟨g, 0, none⟩) K K)).setCell ⟨w2.heap.size, 2, none⟩ (.slice (some ⟨g, K * 2, none⟩) (n.ents.length - K) (c2 - K))) := Chg.setCell
        refine wp_name (fun w4 => Ext w2 w4 ∧ Blk w4 (w2.heap.size + 1) (.cells #[.int .i64 n.level, .int .i64 n.next, .slice (some ⟨g, 0, none⟩) K K] 53) ∧ Blk w4 w2.heap.size (.cells #[.int .i64 n.level, .int .i64 n.next, .slice (some ⟨g, K * 2, none⟩) (n.ents.length - K) (c2 - K)] 53) ∧ Blk w4 g (.cells cur 75))
          ⟨(cB.ext (cA.ext he3 hle.1) hle.2).trans (Ext.drew _), (Ext.drew _).blk _ _ (cB.blk (Blk.setCell (i := 2) hA) hAB), (Ext.drew _).blk _ _ (Blk.setCell (i := 2) (cA.blk hB hAB.symm)), (Ext.drew _).blk _ _ (cB.blk (cA.blk hg3 gA) gB)⟩ ?_
        clear cA cB hA hB hg3 a0 a1 la lb f0 f1 he3
        rintro w4 ⟨he4, hA, hB, hg4⟩
        have a1 := Blk.val hA 1 _ rfl
        have f1 := Blk.free hA 1
        have la := Blk.lt hA
        have hcs : (K - 1) * 2 < cur.size := by omega
        have hval : cur[(K - 1) * 2]? = some (.string ⟨(entAt n.ents (K - 1)).1.toArray⟩) := by
          have h := (entCells_at n.ents (K - 1) (by omega)).1
          rw [← htk, List.getElem?_take_of_lt (by omega), Array.getElem?_toList] at h
          exact h
        have hcell := Blk.val hg4 _ _ hval
        have hfr := Blk.free hg4 ((K - 1) * 2)
        have lg := Blk.lt hg4
        have i3 : (K : Int) - 1 = ((K - 1 : Nat) : Int) := by omega
        have i4 : ((K - 1 : Nat) : Int) < (n.ents.length : Int) := by omega
        have gA' : ¬ (w2.heap.size + 1) = g := fun e => gA e.symm
        go_upto_region 12 with (fail)
        have hr1 := Blk.lt HB1.out
        have hr2 := Blk.lt HB2.out
        have sz1 := he1.size
        have sz2 := he2.size
        have sz0 := HE0.out.size
        have cA : Chg (w2.heap.size + 1) w4 (w4.setCell ⟨(w2.heap.size + 1), 1, none⟩ (.int .i64 0)) := Chg.setCell
        have cG : Chg g (w4.setCell ⟨(w2.heap.size + 1), 1, none⟩ (.int .i64 0)) ((w4.setCell ⟨(w2.heap.size + 1), 1, none⟩ (.int .i64 0)).setCell ⟨g, (K - 1) * 2, none⟩ (.string ⟨#[]⟩)) := Chg.setCell
        have hgN := Blk.setCell (i := (K - 1) * 2) (v := .string ⟨#[]⟩) (cA.blk hg4 gA)
        refine wp_name (fun w5 => Ext w w5 ∧ Blk w5 (w2.heap.size + 1) (.cells #[.int .i64 n.level, .int .i64 0, .slice (some ⟨g, 0, none⟩) K K] 53) ∧ Blk w5 w2.heap.size (.cells #[.int .i64 n.level, .int .i64 n.next, .slice (some ⟨g, K * 2, none⟩) (n.ents.length - K) (c2 - K)] 53) ∧ Cells w5 (some ⟨g, 0, none⟩) (entCells (clrL (n.ents.take K))) ∧ Cells w5 (some ⟨g, K * 2, none⟩) (entCells (n.ents.drop K)) ∧ Blk w5 g (.cells (cur.setIfInBounds ((K - 1) * 2) (.string ⟨#[]⟩)) 75) ∧ Blk w5 (w.heap.size + 1) (.cells #[.int .i64 0, .int .i64 0, .slice none 0 0] 53) ∧ Blk w5 (w.heap.size + 1 + 1) (.cells #[.int .i64 0, .int .i64 0, .slice none 0 0] 53))
          ⟨cG.ext (cA.ext (((HE0.out.trans he1).trans he2).trans he4) (by omega)) (by omega), cG.blk (Blk.setCell (i := 1) hA) (fun e => gA e.symm), cG.blk (cA.blk hB hAB.symm) (fun e => gB e.symm),
            cells_take (n := K * 2) hgN (by rw [Array.toList_setIfInBounds, List.take_set, entCells_clr _ _ hK0 hK1, ← htk, List.take_take, Nat.min_eq_left (by omega)]),
            by
              have h := Cells.drop (cells_take (n := n.ents.length * 2) (xs := (entCells n.ents).set ((K - 1) * 2) (.string ⟨#[]⟩)) hgN (by rw [Array.toList_setIfInBounds, List.take_set, htk])) (K * 2)
              rw [Nat.zero_add, List.drop_set_of_lt (by omega), ← entCells_drop] at h
              exact h,
            hgN, cG.blk (cA.blk (he4.blk _ _ (he2.blk _ _ (he1.blk _ _ HB1.out))) (by omega)) (by omega), cG.blk (cA.blk (he4.blk _ _ (he2.blk _ _ (he1.blk _ _ HB2.out))) (by omega)) (by omega)⟩ ?_
        clear hgN cA cG hA hB hg4 hcell hfr lg a1 f1 la hval he4
        rintro w5 ⟨he5, hA, hB, hC1, hC2, hg5, hR1, hR2⟩
        have a0 := Blk.val hA 0 _ rfl
        have a1 := Blk.val hA 1 _ rfl
        have a2 := Blk.val hA 2 _ rfl
        have b0 := Blk.val hB 0 _ rfl
        have b1 := Blk.val hB 1 _ rfl
        have b2 := Blk.val hB 2 _ rfl
        have r0 := Blk.val hR1 0 _ rfl
        have r1 := Blk.val hR1 1 _ rfl
        have r2 := Blk.val hR1 2 _ rfl
        have s0 := Blk.val hR2 0 _ rfl
        have s1 := Blk.val hR2 1 _ rfl
        have s2 := Blk.val hR2 2 _ rfl
        have f0 := Blk.free hR1 0
        have f1 := Blk.free hR1 1
        have f2 := Blk.free hR1 2
        have g0 := Blk.free hR2 0
        have g1 := Blk.free hR2 1
        have g2 := Blk.free hR2 2
        have l1 := Blk.lt hA
        have l2 := Blk.lt hB
        have l3 := Blk.lt hR1
        have l4 := Blk.lt hR2
        go_region
        all_goals
          go_wp2_with fail
          have H6 := six_rows hR1 hR2 (by omega) (.int .i64 n.level) (.int .i64 0) (.slice (some ⟨g, 0, none⟩) K K) (.int .i64 n.level) (.int .i64 n.next) (.slice (some ⟨g, K * 2, none⟩) (n.ents.length - K) (c2 - K))
          have l1 : (clrL (n.ents.take K)).length = K := by rw [clrL_len, List.length_take]; omega
          have l2 : (n.ents.drop K).length = n.ents.length - K := List.length_drop
          exact bodyPost_ret (results_rows2 Tryz.results70 _ _ _ _ _ _ _ _ _ _ rfl ((Ext.drew _).blk _ _ H6.1) ndDesc rfl ndSize rfl ((Ext.drew _).blk _ _ H6.2.1) ndDesc rfl ndSize) rfl (by
            rw [HR.out]
            refine ⟨(H6.2.2 w he5 (by omega) (by omega)).trans (Ext.drew _), some ⟨g, 0, none⟩, K, some ⟨g, K * 2, none⟩, c2 - K, ?_, Cells.ext (six_cells hC1 (by omega) (by omega) _ _ _ _ _ _) (Ext.drew _), Cells.ext (six_cells hC2 (by omega) (by omega) _ _ _ _ _ _) (Ext.drew _), by rw [l1]; exact Nat.le_refl _, by rw [l2]; omega, fun _ => ⟨g, cur.setIfInBounds ((K - 1) * 2) (.string ⟨#[]⟩), by omega, rfl, by rw [l1], (Ext.drew _).blk _ _ (six_blk hg5 (by omega) (by omega) _ _ _ _ _ _), ?_⟩⟩
            · simp only [ndV, l1, l2]
              rfl
            · rw [l1, l2, show K + (n.ents.length - K) = n.ents.length by omega, entCells_clr _ _ hK0 hK1, entCells_drop, Array.toList_setIfInBounds, List.take_set, htk]
              conv => lhs; rw [← List.take_append_drop (K * 2) (entCells n.ents)]
              rw [List.set_append_left _ _ (by rw [List.length_take, entCells_len]; omega)])
end Go.Proofs.YtolmoknjmdmpgaaGreat
