/- The walks of the reference's Split, of nodes. -/
import Derived.Test.YtpefkjhiaflonaaGreatCF
import Derived.Test.YtpefkjhiaflonaaGreatPiv3
set_option linter.unusedSimpArgs false
set_option linter.unusedVariables false
namespace Go.Proofs.YtpefkjhiaflonaaGreat
open Go.RowKit Dsd
theorem cells_src {w : World} {q : Option Addr} {xs : List Value} (h : Cells w q xs) (hx : xs ≠ []) : ∃ ad, q = some ad ∧ ∀ j u, xs[j]? = some u → w.cell? (ad.add j) = some u := by
  rcases h with h | ⟨b, off, hq, hb, hc⟩
  · exact absurd h hx
  · refine ⟨_, hq, fun j u hj => ?_⟩
    have hjl : j < xs.length := (List.getElem?_eq_some_iff.1 hj).1
    rw [addr_add, hc j hjl]
    simp [List.getD, hj]
theorem six_own {w : World} {a b : Nat} {t : TypeId} {o0 o1 o2 p0 p1 p2 : Value} (ha : Blk w a (.cells #[o0, o1, o2] t)) (hb : Blk w b (.cells #[p0, p1, p2] t)) (hne : a ≠ b) (x0 x1 x2 y0 y1 y2 : Value) {B k n : Nat} {E : TypeId} {v : Value} {xs : List Value} (h : w.ownsRow B E k v n xs) (hE : E ≠ t) :
    (six w a b x0 x1 x2 y0 y1 y2).ownsRow B E k v n xs := by
  have hA : Chg a w (((w.setCell ⟨a, 0, none⟩ x0).setCell ⟨a, 1, none⟩ x1).setCell ⟨a, 2, none⟩ x2) := (Chg.setCell.trans Chg.setCell).trans Chg.setCell
  have hB : Chg b (((w.setCell ⟨a, 0, none⟩ x0).setCell ⟨a, 1, none⟩ x1).setCell ⟨a, 2, none⟩ x2) (six w a b x0 x1 x2 y0 y1 y2) := (Chg.setCell.trans Chg.setCell).trans Chg.setCell
  exact own_chgT (own_chgT h hE ha hA) hE (hA.blk hb (Ne.symm hne)) hB
/-- What the reference's Split hands back at a valid node. -/
def SplR (n : Nd) (w : World) (e : Ending) (w' : World) : Prop := Ext w w' ∧
  if n.ents.length = 1 then e = .returned (.tuple #[.agg #[.int .i64 0, .int .i64 0, .slice none 0 0], .agg #[.int .i64 0, .int .i64 0, .slice none 0 0], .string ⟨#[]⟩, .int .i64 9])
  else ∃ q1 c1 q2 c2, e = .returned (.tuple #[.agg #[.int .i64 n.level, .int .i64 0, .slice q1 ((n.ents.length + 1) / 2 : Nat) c1], .agg #[.int .i64 n.level, .int .i64 n.next, .slice q2 (n.ents.length - (n.ents.length + 1) / 2) c2], .string ⟨((entAt n.ents ((n.ents.length + 1) / 2 - 1)).1).toArray⟩, .int .i64 0]) ∧
    w'.ownsRow w.heap.size 51 2 (.slice q1 ((n.ents.length + 1) / 2) c1) ((n.ents.length + 1) / 2) (entCells (clrL (n.ents.take ((n.ents.length + 1) / 2)))) ∧
    ∃ B2, w.heap.size ≤ B2 ∧ (∀ g, q1 = some ⟨g, 0, none⟩ → g < B2) ∧ w'.ownsRow B2 51 2 (.slice q2 (n.ents.length - (n.ents.length + 1) / 2) c2) (n.ents.length - (n.ents.length + 1) / 2) (entCells (n.ents.drop ((n.ents.length + 1) / 2)))
set_option maxRecDepth 100000 in
set_option maxHeartbeats 4000000 in
theorem SplitR20_any (q : Option Addr) (c : Nat) (n : Nd) (w : World) (h : Nents w q n.ents) (hv : nodeB n = true) (hcap : n.ents.length ≤ c) :
    Calls Tryz.prog 25 #[ndV n q c] w (SplR n w) := by
  have hs := node_iff.1 hv
  have hl1 := hs.l1
  have hl2 := hs.l2
  have HP := Lib.hid (fun W (e : Ext w W) => IsNodeR_any q c n W (h.ext e) (by omega))
  rw [hv] at HP
  have Hout : Hid (∀ e w', SplR n w e w' ↔ (Ext w w' ∧
    if n.ents.length = 1 then e = .returned (.tuple #[.agg #[.int .i64 0, .int .i64 0, .slice none 0 0], .agg #[.int .i64 0, .int .i64 0, .slice none 0 0], .string ⟨#[]⟩, .int .i64 9])
    else ∃ q1 c1 q2 c2, e = .returned (.tuple #[.agg #[.int .i64 n.level, .int .i64 0, .slice q1 ((n.ents.length + 1) / 2 : Nat) c1], .agg #[.int .i64 n.level, .int .i64 n.next, .slice q2 (n.ents.length - (n.ents.length + 1) / 2) c2], .string ⟨((entAt n.ents ((n.ents.length + 1) / 2 - 1)).1).toArray⟩, .int .i64 0]) ∧
      w'.ownsRow w.heap.size 51 2 (.slice q1 ((n.ents.length + 1) / 2) c1) ((n.ents.length + 1) / 2) (entCells (clrL (n.ents.take ((n.ents.length + 1) / 2)))) ∧
      ∃ B2, w.heap.size ≤ B2 ∧ (∀ g, q1 = some ⟨g, 0, none⟩ → g < B2) ∧ w'.ownsRow B2 51 2 (.slice q2 (n.ents.length - (n.ents.length + 1) / 2) c2) (n.ents.length - (n.ents.length + 1) / 2) (entCells (n.ents.drop ((n.ents.length + 1) / 2))))) := Lib.hid (fun _ _ => Iff.rfl)
  have Hn := Lib.hid h
  generalize SplR n w = OUT at *
  unfold ndV at HP ⊢
  have hb0 : Blk (w.alloc (.cells #[.int .i64 n.level, .int .i64 n.next, .slice q n.ents.length c] 26)) w.heap.size (.cells #[.int .i64 n.level, .int .i64 n.next, .slice q n.ents.length c] 26) := Blk.new w _
  go_enter Tryz.func25, Tryz.ntmps25
  go_upto_region 1 with (fail)
  refine wp_name (fun w0 => Ext w w0 ∧ Blk w0 w.heap.size (.cells #[.int .i64 n.level, .int .i64 n.next, .slice q n.ents.length c] 26) ∧ Blk w0 (w.heap.size + 1) (.cells #[.int .i64 0, .int .i64 0, .slice none 0 0] 26) ∧ Blk w0 (w.heap.size + 1 + 1) (.cells #[.int .i64 0, .int .i64 0, .slice none 0 0] 26)) ⟨((Ext.alloc _ _).trans (Ext.alloc _ _)).trans (Ext.alloc _ _), Blk.alloc (Blk.alloc hb0 _) _, Blk.alloc (by simpa using Blk.new (w.alloc (.cells #[.int .i64 n.level, .int .i64 n.next, .slice q n.ents.length c] 26)) (.cells #[.int .i64 0, .int .i64 0, .slice none 0 0] 26)) _, by simpa using Blk.new ((w.alloc (.cells #[.int .i64 n.level, .int .i64 n.next, .slice q n.ents.length c] 26)).alloc (.cells #[.int .i64 0, .int .i64 0, .slice none 0 0] 26)) (.cells #[.int .i64 0, .int .i64 0, .slice none 0 0] 26)⟩ ?_
  clear hb0 h hs hv
  rintro w0 ⟨he0, hb0, hb1, hb2⟩
  by_cases a1 : n.ents.length = 1
  · have i1 : ((n.ents.length : Int) == 1) = true := by simp; omega
    have Ha1 := Lib.hid a1
    clear a1
    go_upto_region 4 with (first
      | ((with_reducible (show wpList _ _ _ (⟨some 10, _, _, _, _, _⟩ :: _) _ _)); refine wpList_row (o := ⟨some 10, _, _, _, _, _⟩) rfl 26 (.tmp 1) rfl _ rfl _ _ _ hb0 ndDesc rfl ndSize ?_)
      | (go_at_call 59; refine (HP.out _ he0).mono ?_; rintro e w1 ⟨rfl, he1⟩; have c2' := Blk.val (he1.blk _ _ hb0) 2 _ rfl; have hl' := Blk.lt (he1.blk _ _ hb0)))
    have hb1' := he1.blk _ _ hb1
    have hb2' := he1.blk _ _ hb2
    have d0 := Blk.val hb1' 0 _ rfl
    have d1 := Blk.val hb1' 1 _ rfl
    have d2 := Blk.val hb1' 2 _ rfl
    have f0 := Blk.free hb1' 0
    have f1 := Blk.free hb1' 1
    have f2 := Blk.free hb1' 2
    have hlt1 := Blk.lt hb1'
    have d3 := Blk.val hb2' 0 _ rfl
    have d4 := Blk.val hb2' 1 _ rfl
    have d5 := Blk.val hb2' 2 _ rfl
    have f3 := Blk.free hb2' 0
    have f4 := Blk.free hb2' 1
    have f5 := Blk.free hb2' 2
    have hlt2 := Blk.lt hb2'
    have H6 := Lib.hid (six_rows hb1' hb2' (by omega) (.int .i64 0) (.int .i64 0) (.slice none 0 0) (.int .i64 0) (.int .i64 0) (.slice none 0 0))
    have hx1 := Lib.hid (he0.trans he1)
    go_wp2_with fail
    exact bodyPost_ret (results_rows2 Tryz.results25 _ _ _ _ _ _ _ _ _ _ rfl H6.out.1 ndDesc rfl ndSize rfl H6.out.2.1 ndDesc rfl ndSize) rfl ((Hout.out _ _).2 ⟨H6.out.2.2 w hx1.out (by omega) (by omega), by rw [if_pos Ha1.out]; rfl⟩)
  · have i1 : ((n.ents.length : Int) == 1) = false := by simp; omega
    have Ha1 := Lib.hid a1
    have eK : ((n.ents.length : Int) + 1) / 2 = ((((n.ents.length + 1) / 2 : Nat)) : Int) := by omega
    have hK1 : (n.ents.length + 1) / 2 < n.ents.length := by omega
    have hK0 : 1 ≤ (n.ents.length + 1) / 2 := by omega
    clear a1
    go_upto_region 6 with (first
      | ((with_reducible (show wpList _ _ _ (⟨some 10, _, _, _, _, _⟩ :: _) _ _)); refine wpList_row (o := ⟨some 10, _, _, _, _, _⟩) rfl 26 (.tmp 1) rfl _ rfl _ _ _ hb0 ndDesc rfl ndSize ?_)
      | (go_at_call 59; refine (HP.out _ he0).mono ?_; rintro e w1 ⟨rfl, he1⟩; have c2' := Blk.val (he1.blk _ _ hb0) 2 _ rfl; have hl' := Blk.lt (he1.blk _ _ hb0)))
    rw [eK]
    generalize hK : (n.ents.length + 1) / 2 = K at *
    clear eK
    have Hx1 := Lib.hid (he0.trans he1)
    have HB0 := Lib.hid (he1.blk _ _ hb0)
    have HB1 := Lib.hid (he1.blk _ _ hb1)
    have HB2 := Lib.hid (he1.blk _ _ hb2)
    have hKc : K ≤ c := by omega
    have hKn : K ≤ n.ents.length := by omega
    have Hn1 := Lib.hid (Hn.out.ext Hx1.out)
    obtain ⟨gb, gof, rfl, hgbl, _⟩ := Hn1.out.at 0 (by omega)
    have htk : (entCells (n.ents.take K)).length = K * 2 := by rw [entCells_len, List.length_take]; omega
    have Hsrc : Hid (∀ W, Ext w1 W → ∃ ad, (some ⟨gb, gof, none⟩ : Option Addr) = some ad ∧ ∀ j u, (entCells (n.ents.take K))[j]? = some u → W.cell? (ad.add j) = some u) := Lib.hid (fun W e => by
      refine cells_src (xs := entCells (n.ents.take K)) ?_ (fun h0 => by rw [h0] at htk; simp at htk; omega)
      rw [entCells_take]
      exact Cells.take (Hn1.out.ext e) _)
    clear he0 he1 hb0 hb1 hb2 HP hK
    go_upto_region 7 with (at_builtin; refine wpList_plain rfl fun _ hK => ?_; refine wp_append0 (.tmp 26) (.tmp 30) 24 51 rfl w1.heap.size (.agg #[.string ByteArray.empty, .int .i64 0]) 2 24 Tryz.underlying24 infoEntA rfl w1.heap.size rfl (Blk.new w1 _) (Nat.le_refl _) (some ⟨gb, gof, none⟩) K c (entCells (n.ents.take K)) rfl htk (fun _ => Hsrc.out _ (Ext.alloc _ _)) (by omega) (by decide) (Ext.alloc _ _).size ?_; intro v1 w2 ho2 he2; refine hK _ _ ?_)
    obtain ⟨q1, c1, rfl⟩ := own_slice ho2
    obtain ⟨g, cur, rfl, hg0, hgb, hgn, hgm, hgz, hgt⟩ := own_parts ho2 (by omega)
    have i3 : (K : Int) - 1 = ((K - 1 : Nat) : Int) := by omega
    have i4 : ((K - 1 : Nat) : Int) < (K : Int) := by omega
    have hval : cur[(K - 1) * 2]? = some (.string ⟨(entAt n.ents (K - 1)).1.toArray⟩) := by
      have h := (entCells_at n.ents (K - 1) (by omega)).1
      have h2 : (entCells n.ents)[(K - 1) * 2]? = (entCells (n.ents.take K))[(K - 1) * 2]? := by rw [entCells_take, List.getElem?_take_of_lt (by omega)]
      rw [h2, ← hgt, List.getElem?_take_of_lt (by omega), Array.getElem?_toList] at h
      exact h
    have hcell := Blk.val hgb _ _ hval
    have hfr := Blk.free hgb ((K - 1) * 2)
    have lg := Blk.lt hgb
    have Hx2 := Lib.hid ((Ext.alloc w1 (.cells #[] 51)).trans he2)
    have HgB := Lib.hid hgb
    have Hch : Hid (Chg g w2 (w2.setCell ⟨g, (K - 1) * 2, none⟩ (.string ⟨#[]⟩))) := Lib.hid Chg.setCell
    have HoL : Hid ((w2.setCell ⟨g, (K - 1) * 2, none⟩ (.string ⟨#[]⟩)).ownsRow w1.heap.size 51 2 (.slice (some ⟨g, 0, none⟩) K c1) K (entCells (clrL (n.ents.take K)))) := Lib.hid (by
      refine ⟨by rw [entCells_len, clrL_len, List.length_take]; omega, .inr ⟨g, c1, _, rfl, hg0, Blk.setCell hgb, hgn, hgm, by simpa using hgz, ?_⟩⟩
      rw [Array.toList_setIfInBounds, List.take_set, entCells_clr _ _ hK0 hK1, hgt, entCells_take])
    have Hx3 := Lib.hid (Hch.out.ext Hx2.out hg0)
    have hgl3 : g < (w2.setCell ⟨g, (K - 1) * 2, none⟩ (.string ⟨#[]⟩)).heap.size := by rw [Hch.out.size]; exact lg
    clear ho2 he2 hgb hval hgt hgz hgn hgm c2' hl'
    generalize (entAt n.ents (K - 1)).1 = bel at *
    go_upto_region 9 with (fail)
    generalize w2.setCell ⟨g, (K - 1) * 2, none⟩ (.string ⟨#[]⟩) = w3 at *
    clear hcell hfr lg i3 i4 Hch HgB Hx2
    have hb3 := Hx3.out.blk _ _ HB0.out
    have k2 := Blk.val hb3 2 _ rfl
    have lk := Blk.lt hb3
    have hdk : (entCells (n.ents.drop K)).length = (n.ents.length - K) * 2 := by rw [entCells_len, List.length_drop]
    have hKne : ¬ c = K := by omega
    have HsrcD : Hid (∀ W, Ext w1 W → ∃ ad, (some ⟨gb, gof + K * 2, none⟩ : Option Addr) = some ad ∧ ∀ j u, (entCells (n.ents.drop K))[j]? = some u → W.cell? (ad.add j) = some u) := Lib.hid (fun W e => by
      refine cells_src (xs := entCells (n.ents.drop K)) ?_ (fun h0 => by rw [h0] at hdk; simp at hdk; omega)
      rw [entCells_drop]
      exact Cells.drop (Hn1.out.ext e) _)
    go_upto_region 10 with (at_builtin; refine wpList_plain rfl fun _ hK => ?_; refine wp_append0 (.tmp 43) (.tmp 47) 24 51 rfl w3.heap.size (.agg #[.string ByteArray.empty, .int .i64 0]) 2 24 Tryz.underlying24 infoEntA rfl w3.heap.size rfl (Blk.new w3 _) (Nat.le_refl _) (some ⟨gb, gof + K * 2, none⟩) (n.ents.length - K) (c - K) (entCells (n.ents.drop K)) rfl hdk (fun _ => HsrcD.out _ (Hx3.out.trans (Ext.alloc _ _))) (by omega) (by decide) (Ext.alloc _ _).size ?_; intro v4 w4 ho4 he4; refine hK _ _ ?_)
    obtain ⟨q4, c4, rfl⟩ := own_slice ho4
    have hx34 := (Ext.alloc w3 (.cells #[] 51)).trans he4
    have HoR := Lib.hid ho4
    have HBB := Lib.hid (And.intro (Nat.le_trans Hx1.out.size Hx3.out.size) hgl3)
    clear hgl3
    have HoL4 := Lib.hid (own_le (own_ext HoL.out hx34) Hx1.out.size)
    have Hx4 := Lib.hid (Hx3.out.trans hx34)
    have hA := Hx4.out.blk _ _ HB0.out
    have hR1 := Hx4.out.blk _ _ HB1.out
    have hR2 := Hx4.out.blk _ _ HB2.out
    clear ho4 he4 hx34 k2 lk hb3 HoL
    have a0 := Blk.val hA 0 _ rfl
    have a1 := Blk.val hA 1 _ rfl
    have a2 := Blk.val hA 2 _ rfl
    have r0 := Blk.val hR1 0 _ rfl
    have r1 := Blk.val hR1 1 _ rfl
    have r2 := Blk.val hR1 2 _ rfl
    have s0 := Blk.val hR2 0 _ rfl
    have s1 := Blk.val hR2 1 _ rfl
    have s2 := Blk.val hR2 2 _ rfl
    have f0 := Blk.free hR1 0
    have f1 := Blk.free hR1 1
    have f2 := Blk.free hR1 2
    have g0 := Blk.free hR2 0
    have g1 := Blk.free hR2 1
    have g2 := Blk.free hR2 2
    have l1 := Blk.lt hA
    have l3 := Blk.lt hR1
    have l4 := Blk.lt hR2
    go_region
    all_goals
      go_wp2_with fail
      have H6 := six_rows hR1 hR2 (by omega) (.int .i64 n.level) (.int .i64 0) (.slice (some ⟨g, 0, none⟩) K c1) (.int .i64 n.level) (.int .i64 n.next) (.slice q4 (n.ents.length - K) c4)
      have hw1 := Hx1.out.size
      have hl9 := Blk.lt HB2.out
      exact bodyPost_ret (results_rows2 Tryz.results25 _ _ _ _ _ _ _ _ _ _ rfl ((Ext.drew _).blk _ _ H6.1) ndDesc rfl ndSize rfl ((Ext.drew _).blk _ _ H6.2.1) ndDesc rfl ndSize) rfl ((Hout.out _ _).2 ⟨(H6.2.2 w (Hx1.out.trans Hx4.out) (by omega) (by omega)).trans (Ext.drew _), by
        rw [if_neg Ha1.out]
        exact ⟨some ⟨g, 0, none⟩, c1, q4, c4, rfl, own_ext (six_own hR1 hR2 (by omega) _ _ _ _ _ _ HoL4.out (by decide)) (Ext.drew _), w3.heap.size, HBB.out.1, fun g' e => by simp only [Option.some.injEq, Addr.mk.injEq, and_true] at e; rw [← e]; exact HBB.out.2, own_ext (six_own hR1 hR2 (by omega) _ _ _ _ _ _ HoR.out (by decide)) (Ext.drew _)⟩⟩)
end Go.Proofs.YtpefkjhiaflonaaGreat
/- The walk of the reference's Split, of areas, at any area; the program's. -/
namespace Go.Proofs.YtpefkjhiaflonaaGreat
open Go.RowKit Dsd
theorem own_chgN {g g1 : Nat} {w w' : World} {B k n c : Nat} {e : TypeId} {xs : List Value} (h : w.ownsRow B e k (.slice (some ⟨g1, 0, none⟩) n c) n xs) (ch : Chg g w w') (hg : g1 ≠ g) : w'.ownsRow B e k (.slice (some ⟨g1, 0, none⟩) n c) n xs := by
  refine h.kept (row := some g) ⟨ch.os, ch.tape, ch.output, by rw [ch.size]; exact Nat.le_refl _, fun k _ hk => ch.block k (fun e => hk (by rw [e]))⟩ ?_
  right
  intro e
  exact hg (by simpa [Value.ownBlock] using e)
theorem own_entPg {w : World} {B g n c i : Nat} {L : List Ent} (h : w.ownsRow B 51 2 (.slice (some ⟨g, 0, none⟩) n c) n (entCells L)) (hi : i < n) (pg : Int) :
    (w.setCell ⟨g, i * 2 + 1, none⟩ (.int .i64 pg)).ownsRow B 51 2 (.slice (some ⟨g, 0, none⟩) n c) n (entCells (L.set i ((entAt L i).1, pg))) ∧ w.frozen? ⟨g, i * 2 + 1, none⟩ = false ∧ (∃ old, w.cell? ⟨g, i * 2 + 1, none⟩ = some old) ∧ g < w.heap.size ∧ B ≤ g := by
  have hl := h.1
  rw [entCells_len] at hl
  obtain ⟨g', cur, hq, h1, h2, h3, h4, h5, h6⟩ := own_parts h (by omega)
  simp only [Option.some.injEq, Addr.mk.injEq, and_true] at hq
  subst hq
  have hsz : i * 2 + 1 < cur.size := by omega
  refine ⟨⟨by rw [entCells_len, List.length_set]; omega, .inr ⟨g, c, _, rfl, h1, Blk.setCell h2, h3, h4, by simpa using h5, ?_⟩⟩, Blk.free h2 _, ⟨cur[i * 2 + 1], Blk.val h2 _ _ (Array.getElem?_eq_getElem hsz)⟩, Blk.lt h2, h1⟩
  rw [Array.toList_setIfInBounds, List.take_set, h6, entCells_pg _ _ _ (by omega)]
theorem rowsX_take {w : World} {vs : List Value} {V : List Recs} (h : RowsX w vs V) (K : Nat) : RowsX w (vs.take K) (V.take K) := by
  refine ⟨by rw [List.length_take, List.length_take, h.1], fun i hi => ?_⟩
  rw [List.length_take] at hi
  have e1 : (vs.take K).getD i undef = vs.getD i undef := by simp [List.getD, List.getElem?_take, show i < K by omega]
  have e2 : (V.take K).getD i [] = V.getD i [] := by simp [List.getD, List.getElem?_take, show i < K by omega]
  rw [e1, e2]; exact h.2 i (by omega)
theorem rowsX_drop {w : World} {vs : List Value} {V : List Recs} (h : RowsX w vs V) (K : Nat) : RowsX w (vs.drop K) (V.drop K) := by
  refine ⟨by rw [List.length_drop, List.length_drop, h.1], fun i hi => ?_⟩
  rw [List.length_drop] at hi
  have e1 : (vs.drop K).getD i undef = vs.getD (K + i) undef := by simp [List.getD, List.getElem?_drop]
  have e2 : (V.drop K).getD i [] = V.getD (K + i) [] := by simp [List.getD, List.getElem?_drop]
  rw [e1, e2]; exact h.2 (K + i) (by omega)
/-! ### Two stores of areas into older variables, in a region that draws its order -/
theorem arBuilt (b lv nx : Int) (q : Option Addr) (n c : Nat) (p : Option Addr) (k m : Nat) : Tryz.prog.built 29 [(0, .int .i64 b), (1, .agg #[.int .i64 lv, .int .i64 nx, .slice q n c]), (2, .slice p k m)] = some #[.int .i64 b, .int .i64 lv, .int .i64 nx, .slice q n c, .slice p k m] := by kernel_rfl
def cutV (w : World) (B : Nat) : World := { w with heap := w.heap.extract 0 B }
theorem cutV_ext (w : World) (B : Nat) : Ext (cutV w B) w := by
  refine ⟨rfl, rfl, rfl, ?_, fun k hk => ?_⟩
  · simp [cutV]; omega
  · simp [cutV] at hk ⊢
    simp [Array.getElem?_extract, show k < B by omega, show k < w.heap.size by omega]
    omega
theorem cutV_size {w : World} {B : Nat} (h : B ≤ w.heap.size) : (cutV w B).heap.size = B := by simp [cutV]; omega
theorem blk_cut {wc w : World} {b : Nat} {o : Obj} (e : Ext wc w) (hb : b < wc.heap.size) (h : Blk w b o) : Blk wc b o := (e.block b hb).symm.trans h
theorem ext_cut {w wc wr : World} (h : Ext w wr) (c : Ext wc wr) (hs : w.heap.size ≤ wc.heap.size) : Ext w wc :=
  ⟨c.os.symm.trans h.os, c.tape.symm.trans h.tape, c.output.symm.trans h.output, hs, fun k hk => (c.block k (Nat.lt_of_lt_of_le hk hs)).symm.trans (h.block k hk)⟩
/-- A variable of type Area takes another value. -/
def RA (b : Nat) : Rel := fun w w' => (∃ cs, Blk w b (.cells cs 29)) ∧ Chg b w w'
theorem own_ra {b B k n : Nat} {w w' : World} {e : TypeId} {v : Value} {xs : List Value} (c : RA b w w') (h : w.ownsRow B e k v n xs) (hne : e ≠ 29) : w'.ownsRow B e k v n xs := by
  obtain ⟨⟨cs, hb⟩, hc⟩ := c
  exact own_chgT h hne hb hc
theorem blk_ra {b g : Nat} {w w' : World} {t : TypeId} {cs : Array Value} (c : RA b w w') (h : Blk w g (.cells cs t)) (hne : t ≠ 29) : Blk w' g (.cells cs t) := by
  obtain ⟨⟨cs0, hb⟩, hc⟩ := c
  exact hc.blk h (blk_ne h hb hne)
/-- An area's cells, its intervals a row of the call's own. -/
def AreaF (b lv nx : Int) (q : Option Addr) (n c k N : Nat) (xs : List Value) : Fact := fun x w => ∃ p m, x = .agg #[.int .i64 b, .int .i64 lv, .int .i64 nx, .slice q n c, .slice p k m] ∧ w.ownsRow N 43 1 (.slice p k m) k xs
def AreaG (z : Nat) (b lv nx : Int) (q : Option Addr) (n c k N : Nat) (xs : List Value) (S : World → Prop) : Fact := fun _ w => (∃ p m, Blk w z (.cells #[.int .i64 b, .int .i64 lv, .int .i64 nx, .slice q n c, .slice p k m] 29) ∧ w.ownsRow N 43 1 (.slice p k m) k xs) ∧ S w
theorem AreaF.stable (b lv nx : Int) (q : Option Addr) (n c k N : Nat) (xs : List Value) : (AreaF b lv nx q n c k N xs).stable := fun _ _ _ he ⟨p, m, h1, h2⟩ => ⟨p, m, h1, own_ext h2 he⟩
theorem AreaG.stable (z : Nat) (b lv nx : Int) (q : Option Addr) (n c k N : Nat) (xs : List Value) (S : World → Prop) (hS : ∀ w w', Ext w w' → S w → S w') : (AreaG z b lv nx q n c k N xs S).stable := fun _ _ _ he ⟨⟨p, m, h1, h2⟩, h3⟩ => ⟨⟨p, m, he.blk _ _ h1, own_ext h2 he⟩, hS _ _ he h3⟩
def RA2 (z y : Nat) : Nat → Rel := fun i => if i = 20 then RA z else RA y
theorem keepA2 {l : List Oper} {z y k s1 s2 : Nat} {f : Fact} (h : ∀ b v w w', RA b w w' → f v w → f v w') : Pre.KeepsP .any l [(20, [(0, s1)]), (21, [(13, s2)])] (RA2 z y) k f := fun x _ => .inr fun v w w' hr hv => by
  unfold RA2 at hr
  split at hr
  · exact h _ _ _ _ hr hv
  · exact h _ _ _ _ hr hv
theorem AreaF.ra {b lv nx : Int} {q : Option Addr} {n c k N : Nat} {xs : List Value} (z : Nat) (v : Value) (w w' : World) (r : RA z w w') (h : AreaF b lv nx q n c k N xs v w) : AreaF b lv nx q n c k N xs v w' := by
  obtain ⟨p, m, h1, h2⟩ := h
  exact ⟨p, m, h1, own_ra r h2 (by decide)⟩
theorem RowsF.ra {B n : Nat} {xs : List Value} (z : Nat) (v : Value) (w w' : World) (r : RA z w w') (h : RowsF 43 B 1 n xs v w) : RowsF 43 B 1 n xs v w' := by
  obtain ⟨q, c, h1, h2⟩ := h
  exact ⟨q, c, h1, own_ra r h2 (by decide)⟩
theorem NoneF.ra {B : Nat} (z : Nat) (v : Value) (w w' : World) (r : RA z w w') (h : NoneF 43 B v w) : NoneF 43 B v w' := by
  obtain ⟨b, h1, h2, h3⟩ := h
  exact ⟨b, h1, blk_ra r h2 (by decide), h3⟩
/-- What stands until the second store. -/
def PrA (z y : Nat) (S : World → Prop) : Nat → World → Prop := fun p w => S w ∧ Blk w y (.cells arZ 29) ∧ (p = 20 → Blk w z (.cells arZ 29))
theorem gok_A2 {l : List Oper} {w0 : World} {z y s1 s2 : Nat} {G1 G2 : Fact} (hz : w0.heap.size ≤ z) (hy : w0.heap.size ≤ y) (h1 : G1.stable) (h2 : G2.stable) (k1 : ∀ v w w', RA y w w' → G1 v w → G1 v w') (m1 : mustB .any l 0 20 = true) (m2 : mustB .any l 13 21 = true) (m3 : mustB .any l 20 21 = true → True) (k2 : ∀ v w w', RA z w w' → G2 v w → G2 v w') :
    GOk l w0 [(20, [(0, s1)]), (21, [(13, s2)])] (RA2 z y) (fun p _ => if p = 20 then G1 else G2) := by
  have hR : ∀ b, w0.heap.size ≤ b → ∀ w w', RA b w w' → Below w0.heap.size w w' := fun b hb w w' ⟨⟨cs, h0⟩, c⟩ => ⟨c.os, c.tape, c.output, by rw [c.size]; have := Blk.lt h0; omega, fun k hk => c.block k (by omega)⟩
  refine ⟨fun i w w' h => ?_, fun i j => ?_, fun p j i hk hp hne x a b h hx => ?_, fun p j hk => ?_⟩
  · unfold RA2 at h
    split at h
    · exact hR z hz _ _ h
    · exact hR y hy _ _ h
  · split
    · exact h1
    · exact h2
  · simp [killB] at hk
    simp [pivB] at hp
    unfold RA2 at h
    rcases hk with ⟨rfl, rfl⟩ | ⟨rfl, rfl⟩
    · rw [if_pos rfl] at hx ⊢
      rw [if_neg hne] at h
      exact k1 _ _ _ h hx
    · rw [if_neg (by decide)] at hx ⊢
      have : i = 20 := by rcases hp with h | h <;> omega
      rw [if_pos this] at h
      exact k2 _ _ _ h hx
  · simp [killB] at hk
    rcases hk with ⟨rfl, rfl⟩ | ⟨rfl, rfl⟩
    · exact .inr m1
    · exact .inr m2
theorem prok_A2 {l : List Oper} {N z y s1 s2 : Nat} {S : World → Prop} (hm : mustB .any l 20 21 = true) (hzy : y ≠ z) (hE : ∀ w w', Ext w w' → S w → S w') (hS : ∀ w w', RA z w w' → S w → S w') (hB : orderB .any l.toArray N = true) : Pre.PrOk .any l.toArray [(20, [(0, s1)]), (21, [(13, s2)])] (RA2 z y) (PrA z y S) := by
  refine ⟨fun p _ w w' he ⟨h1, h2, h3⟩ => ⟨hE _ _ he h1, he.blk _ _ h2, fun e => he.blk _ _ (h3 e)⟩, fun p q hp hq hne => ?_⟩
  simp [pivB] at hp hq
  rcases hp with rfl | rfl
  · rcases hq with rfl | rfl
    · exact absurd rfl hne
    · exact .inl (mustB_must hB hm)
  · rcases hq with rfl | rfl
    · refine .inr fun w w' r ⟨h1, h2, h3⟩ => ?_
      unfold RA2 at r
      rw [if_pos rfl] at r
      exact ⟨hS _ _ r h1, r.2.blk h2 hzy, fun e => by omega⟩
    · exact absurd rfl hne
/-- What Split hands back at any area and base. -/
def SplitG (d : DS) (a : Ar) (base : Int) (w : World) (e : Ending) (w' : World) : Prop := Ext w w' ∧
  if (areaB d a && isBaseB base) = false then e = .returned (.tuple #[.agg arZ, .agg arZ, .string ⟨#[]⟩, .int .i64 1])
  else if a.ivs.length = 1 then e = .returned (.tuple #[.agg arZ, .agg arZ, .string ⟨#[]⟩, .int .i64 9])
  else ∃ (q1 : Option Addr) (c1 : Nat) (p1 : Option Addr) (m1 : Nat) (q2 : Option Addr) (c2 : Nat) (p2 : Option Addr) (m2 : Nat), e = .returned (.tuple #[.agg (arC (leftA a base) q1 c1 p1 m1), .agg (arC (rightA a base) q2 c2 p2 m2), .string ⟨(midA a).toArray⟩, .int .i64 0]) ∧ ArW w' (leftA a base) q1 c1 p1 m1 ∧ ArW w' (rightA a base) q2 c2 p2 m2
set_option maxRecDepth 100000 in
set_option maxHeartbeats 4000000 in
theorem SplitRA_any (d : DS) (a : Ar) (q : Option Addr) (c : Nat) (p : Option Addr) (m : Nat) (base : Int) (w : World) (hv : ArW w a q c p m) (h1 : a.nd.ents.length ≤ 1000000) (h2 : a.ivs.length ≤ 1000000) (h3 : ∀ i, Small (a.ivs.getD i [])) :
    Calls Tryz.prog 7 #[.agg #[.int .i64 d.id, .int .i64 d.org, .int .i64 d.format, .int .i64 d.length, .int .i64 d.block, .int .i64 d.keyAt, .int .i64 d.keyLength, .int .i64 d.interval, .int .i64 d.area, .int .i64 d.freeInterval, .int .i64 d.freeArea, .int .i64 d.base, .int .i64 d.altAt, .int .i64 d.altLength, .bool d.unique, .int .i64 d.cls, .string ⟨d.volume.toArray⟩, .string ⟨d.owner.toArray⟩, .int .i64 d.created, .int .i64 d.expires, .bool d.archived], .agg (arC a q c p m), .int .i64 base] w (SplitG d a base w) := by
  have HV := Lib.hid (fun W (e : Ext w W) => ValidAR_anyW d a q c p m W (hv.ext e) h1 h2 h3)
  have Hv := Lib.hid hv
  have hda := ds_ar w d a q c p m
  have hex3 := (Ext.alloc ((w.alloc (.cells #[.int .i64 d.id, .int .i64 d.org, .int .i64 d.format, .int .i64 d.length, .int .i64 d.block, .int .i64 d.keyAt, .int .i64 d.keyLength, .int .i64 d.interval, .int .i64 d.area, .int .i64 d.freeInterval, .int .i64 d.freeArea, .int .i64 d.base, .int .i64 d.altAt, .int .i64 d.altLength, .bool d.unique, .int .i64 d.cls, .string ⟨d.volume.toArray⟩, .string ⟨d.owner.toArray⟩, .int .i64 d.created, .int .i64 d.expires, .bool d.archived] 23)).alloc (.cells (arC a q c p m) 29)) (.cells arZ 29)).trans (Ext.alloc _ (.cells arZ 29))
  cases hA : areaB d a
  · have HO : Hid (∀ e w', SplitG d a base w e w' ↔ (Ext w w' ∧ e = .returned (.tuple #[.agg arZ, .agg arZ, .string ⟨#[]⟩, .int .i64 1]))) := Lib.hid (fun e w' => by unfold SplitG; rw [hA, if_pos (Bool.false_and _)])
    rw [hA] at HV
    generalize SplitG d a base w = OUT at *
    clear hA hv
    go_enter Tryz.func7, Tryz.ntmps7
    go_upto_region 1 with (fail)
    refine wp_name (fun w0 => Ext w w0 ∧ DsAt w0 w.heap.size d ∧ ArAt w0 (w.heap.size + 1) a q c p m ∧ Blk w0 (w.heap.size + 1 + 1) (.cells arZ 29) ∧ Blk w0 (w.heap.size + 1 + 1 + 1) (.cells arZ 29)) ⟨hda.1.trans hex3, hda.2.1.ext hex3, hda.2.2.ext hex3, (Ext.alloc _ _).blk _ _ (Blk.new1 _ _ _ (by simp)), Blk.new1 _ _ _ (by simp)⟩ ?_
    clear hda hex3
    rintro w0 ⟨he0, hd0, ha0, hz0, hy0⟩
    go_wp2_with (first
      | ((with_reducible (show wpList _ _ _ (⟨some 16, _, _, _, _, _⟩ :: _) _ _)); refine wpList_ds (o := ⟨some 16, _, _, _, _, _⟩) rfl (.tmp 3) rfl _ rfl d hd0 ?_)
      | ((with_reducible (show wpList _ _ _ (⟨some 17, _, _, _, _, _⟩ :: _) _ _)); refine wpList_row (o := ⟨some 17, _, _, _, _, _⟩) rfl 29 (.tmp 4) rfl _ rfl _ _ _ ha0 arDesc rfl arSize ?_)
      | (go_at_call 24; refine (HV.out _ he0).mono ?_; rintro e w1 ⟨rfl, he1⟩; have hz1 := he1.blk _ _ hz0; have hy1 := he1.blk _ _ hy0)
      | (refine wpList_bld (o := ⟨some 28, _, _, _, _, _⟩) rfl 29 #[] rfl [] rfl _ arZ_built ?_)
      | (refine wpList_bld (o := ⟨some 29, _, _, _, _, _⟩) rfl 29 #[] rfl [] rfl _ arZ_built ?_)
      | (refine wpList_put rfl 29 (.tmp 6) (.tmp 28) rfl _ arZ rfl rfl _ _ hz1 arSize rfl (by simp [arZ, Value.oneCell']) ?_; intro w3 hz3 hc3)
      | (refine wpList_put rfl 29 (.tmp 7) (.tmp 29) rfl _ arZ rfl rfl _ _ (hc3.blk hy1 (by omega)) arSize rfl (by simp [arZ, Value.oneCell']) ?_; intro w4 hy4 hc4))
    exact bodyPost_ret (results_rows2 Tryz.results7 _ _ _ _ _ _ _ _ _ _ rfl (hc4.blk hz3 (by omega)) arDesc rfl arSize rfl hy4 arDesc rfl arSize) rfl ((HO.out _ _).2 ⟨hc4.ext (hc3.ext (he0.trans he1) (by omega)) (by omega), rfl⟩)
  · have hbad : ∀ (hb : isBaseB base = false), ∀ e w', SplitG d a base w e w' ↔ (Ext w w' ∧ e = .returned (.tuple #[.agg arZ, .agg arZ, .string ⟨#[]⟩, .int .i64 1])) := fun hb e w' => by unfold SplitG; rw [hA, hb, if_pos (Bool.and_false _)]
    rw [hA] at HV
    by_cases b1 : base < 1
    · have HO := Lib.hid (hbad (by unfold isBaseB; rw [decide_eq_false (by omega)]; rfl))
      have hd1 : decide (base < 1) = true := decide_eq_true b1
      clear hbad hA hv
      generalize SplitG d a base w = OUT at *
      go_enter Tryz.func7, Tryz.ntmps7
      go_upto_region 1 with (fail)
      refine wp_name (fun w0 => Ext w w0 ∧ DsAt w0 w.heap.size d ∧ ArAt w0 (w.heap.size + 1) a q c p m ∧ Blk w0 (w.heap.size + 1 + 1) (.cells arZ 29) ∧ Blk w0 (w.heap.size + 1 + 1 + 1) (.cells arZ 29)) ⟨hda.1.trans hex3, hda.2.1.ext hex3, hda.2.2.ext hex3, (Ext.alloc _ _).blk _ _ (Blk.new1 _ _ _ (by simp)), Blk.new1 _ _ _ (by simp)⟩ ?_
      clear hda hex3
      rintro w0 ⟨he0, hd0, ha0, hz0, hy0⟩
      go_wp2_with (first
        | ((with_reducible (show wpList _ _ _ (⟨some 16, _, _, _, _, _⟩ :: _) _ _)); refine wpList_ds (o := ⟨some 16, _, _, _, _, _⟩) rfl (.tmp 3) rfl _ rfl d hd0 ?_)
        | ((with_reducible (show wpList _ _ _ (⟨some 17, _, _, _, _, _⟩ :: _) _ _)); refine wpList_row (o := ⟨some 17, _, _, _, _, _⟩) rfl 29 (.tmp 4) rfl _ rfl _ _ _ ha0 arDesc rfl arSize ?_)
        | (go_at_call 24; refine (HV.out _ he0).mono ?_; rintro e w1 ⟨rfl, he1⟩; have hz1 := he1.blk _ _ hz0; have hy1 := he1.blk _ _ hy0)
        | (refine wpList_bld (o := ⟨some 28, _, _, _, _, _⟩) rfl 29 #[] rfl [] rfl _ arZ_built ?_)
        | (refine wpList_bld (o := ⟨some 29, _, _, _, _, _⟩) rfl 29 #[] rfl [] rfl _ arZ_built ?_)
        | (refine wpList_put rfl 29 (.tmp 6) (.tmp 28) rfl _ arZ rfl rfl _ _ hz1 arSize rfl (by simp [arZ, Value.oneCell']) ?_; intro w3 hz3 hc3)
        | (refine wpList_put rfl 29 (.tmp 7) (.tmp 29) rfl _ arZ rfl rfl _ _ (hc3.blk hy1 (by omega)) arSize rfl (by simp [arZ, Value.oneCell']) ?_; intro w4 hy4 hc4))
      exact bodyPost_ret (results_rows2 Tryz.results7 _ _ _ _ _ _ _ _ _ _ rfl (hc4.blk hz3 (by omega)) arDesc rfl arSize rfl hy4 arDesc rfl arSize) rfl ((HO.out _ _).2 ⟨hc4.ext (hc3.ext (he0.trans he1) (by omega)) (by omega), rfl⟩)
    · have hd1 : decide (base < 1) = false := decide_eq_false b1
      by_cases b2 : 16777208 < base
      · have HO := Lib.hid (hbad (by unfold isBaseB; rw [decide_eq_false (show ¬ base ≤ 16777208 by omega), Bool.and_false]))
        have hd2 : decide (16777208 < base) = true := decide_eq_true b2
        clear hbad hA hv
        generalize SplitG d a base w = OUT at *
        go_enter Tryz.func7, Tryz.ntmps7
        go_upto_region 1 with (fail)
        refine wp_name (fun w0 => Ext w w0 ∧ DsAt w0 w.heap.size d ∧ ArAt w0 (w.heap.size + 1) a q c p m ∧ Blk w0 (w.heap.size + 1 + 1) (.cells arZ 29) ∧ Blk w0 (w.heap.size + 1 + 1 + 1) (.cells arZ 29)) ⟨hda.1.trans hex3, hda.2.1.ext hex3, hda.2.2.ext hex3, (Ext.alloc _ _).blk _ _ (Blk.new1 _ _ _ (by simp)), Blk.new1 _ _ _ (by simp)⟩ ?_
        clear hda hex3
        rintro w0 ⟨he0, hd0, ha0, hz0, hy0⟩
        go_wp2_with (first
          | ((with_reducible (show wpList _ _ _ (⟨some 16, _, _, _, _, _⟩ :: _) _ _)); refine wpList_ds (o := ⟨some 16, _, _, _, _, _⟩) rfl (.tmp 3) rfl _ rfl d hd0 ?_)
          | ((with_reducible (show wpList _ _ _ (⟨some 17, _, _, _, _, _⟩ :: _) _ _)); refine wpList_row (o := ⟨some 17, _, _, _, _, _⟩) rfl 29 (.tmp 4) rfl _ rfl _ _ _ ha0 arDesc rfl arSize ?_)
          | (go_at_call 24; refine (HV.out _ he0).mono ?_; rintro e w1 ⟨rfl, he1⟩; have hz1 := he1.blk _ _ hz0; have hy1 := he1.blk _ _ hy0)
          | (refine wpList_bld (o := ⟨some 28, _, _, _, _, _⟩) rfl 29 #[] rfl [] rfl _ arZ_built ?_)
          | (refine wpList_bld (o := ⟨some 29, _, _, _, _, _⟩) rfl 29 #[] rfl [] rfl _ arZ_built ?_)
          | (refine wpList_put rfl 29 (.tmp 6) (.tmp 28) rfl _ arZ rfl rfl _ _ hz1 arSize rfl (by simp [arZ, Value.oneCell']) ?_; intro w3 hz3 hc3)
          | (refine wpList_put rfl 29 (.tmp 7) (.tmp 29) rfl _ arZ rfl rfl _ _ (hc3.blk hy1 (by omega)) arSize rfl (by simp [arZ, Value.oneCell']) ?_; intro w4 hy4 hc4))
        exact bodyPost_ret (results_rows2 Tryz.results7 _ _ _ _ _ _ _ _ _ _ rfl (hc4.blk hz3 (by omega)) arDesc rfl arSize rfl hy4 arDesc rfl arSize) rfl ((HO.out _ _).2 ⟨hc4.ext (hc3.ext (he0.trans he1) (by omega)) (by omega), rfl⟩)
      · have hd2 : decide (16777208 < base) = false := decide_eq_false b2
        clear hbad
        have I := area_iff.1 hA
        have Hout : Hid (∀ e w', SplitG d a base w e w' ↔ (Ext w w' ∧ if a.ivs.length = 1 then e = .returned (.tuple #[.agg arZ, .agg arZ, .string ⟨#[]⟩, .int .i64 9])
          else ∃ (q1 : Option Addr) (c1 : Nat) (p1 : Option Addr) (m1 : Nat) (q2 : Option Addr) (c2 : Nat) (p2 : Option Addr) (m2 : Nat), e = .returned (.tuple #[.agg (arC (leftA a base) q1 c1 p1 m1), .agg (arC (rightA a base) q2 c2 p2 m2), .string ⟨(midA a).toArray⟩, .int .i64 0]) ∧ ArW w' (leftA a base) q1 c1 p1 m1 ∧ ArW w' (rightA a base) q2 c2 p2 m2)) := Lib.hid (fun e w' => by
            unfold SplitG
            rw [hA, if_neg (by unfold isBaseB; rw [decide_eq_true (show 1 ≤ base by omega), decide_eq_true (show base ≤ 16777208 by omega)]; simp)])
        have HS := Lib.hid (fun W (e : Ext w W) => SplitR20_any q c a.nd W (hv.ents.ext e) I.node hv.ec)
        have Hlen := Lib.hid I.len
        generalize SplitG d a base w = OUT at *
        have HI := Lib.hid I
        clear hA hv I
        unfold SplR ndV at HS
        go_enter Tryz.func7, Tryz.ntmps7
        go_upto_region 1 with (fail)
        refine wp_name (fun w0 => Ext w w0 ∧ DsAt w0 w.heap.size d ∧ ArAt w0 (w.heap.size + 1) a q c p m ∧ Blk w0 (w.heap.size + 1 + 1) (.cells arZ 29) ∧ Blk w0 (w.heap.size + 1 + 1 + 1) (.cells arZ 29)) ⟨hda.1.trans hex3, hda.2.1.ext hex3, hda.2.2.ext hex3, (Ext.alloc _ _).blk _ _ (Blk.new1 _ _ _ (by simp)), Blk.new1 _ _ _ (by simp)⟩ ?_
        clear hda hex3
        rintro w0 ⟨he0, hd0, ha0, hz0, hy0⟩
        by_cases hone : a.ivs.length = 1
        · have Hone := Lib.hid hone
          have hE1 : a.nd.ents.length = 1 := by rw [← Hlen.out]; exact hone
          have HS1 : Hid (∀ W, Ext w W → Calls Tryz.prog 25 #[.agg #[.int .i64 a.nd.level, .int .i64 a.nd.next, .slice q a.nd.ents.length c]] W fun e' W' => Ext W W' ∧ e' = .returned (.tuple #[.agg #[.int .i64 0, .int .i64 0, .slice none 0 0], .agg #[.int .i64 0, .int .i64 0, .slice none 0 0], .string ⟨#[]⟩, .int .i64 9])) := Lib.hid (fun W e => (HS.out W e).mono (fun e' W' h => by rw [if_pos hE1] at h; exact h))
          clear hone hE1 HS
          go_wp2_with (first
            | ((with_reducible (show wpList _ _ _ (⟨some 16, _, _, _, _, _⟩ :: _) _ _)); refine wpList_ds (o := ⟨some 16, _, _, _, _, _⟩) rfl (.tmp 3) rfl _ rfl d hd0 ?_)
            | ((with_reducible (show wpList _ _ _ (⟨some 17, _, _, _, _, _⟩ :: _) _ _)); refine wpList_row (o := ⟨some 17, _, _, _, _, _⟩) rfl 29 (.tmp 4) rfl _ rfl _ _ _ ha0 arDesc rfl arSize ?_)
            | (go_at_call 24; refine (HV.out _ he0).mono ?_; rintro e w1 ⟨rfl, he1⟩; have hz1 := he1.blk _ _ hz0; have hy1 := he1.blk _ _ hy0; have ha1 := ha0.ext he1; have sz1 := he1.size)
            | ((with_reducible (show wpList _ _ _ (⟨some 32, _, _, _, _, _⟩ :: _) _ _)); refine wpList_part (o := ⟨some 32, _, _, _, _, _⟩) rfl 26 (.tmp 31) rfl (w.heap.size + 1) 1 rfl _ (arC a q c p m) #[.int .i64 a.nd.level, .int .i64 a.nd.next, .slice q a.nd.ents.length c] _ ha1 (ar_part a q c p m) ndDesc rfl ndSize ?_)
            | (go_at_call 25; refine (HS1.out _ (he0.trans he1)).mono ?_; rintro e w2 ⟨he2, rfl⟩; have hz2 := he2.blk _ _ hz1; have hy2 := he2.blk _ _ hy1; have lz2 := Blk.lt hz2; have ly2 := Blk.lt hy2)
            | (refine wpList_put rfl 26 (.tmp 10) (.tmp 34) rfl _ #[.int .i64 0, .int .i64 0, .slice none 0 0] rfl rfl _ _ (Blk.alloc (Blk.new w2 _) _) ndSize rfl (by simp [Value.oneCell']) ?_; intro w7 hn7 hc7)
            | (refine wpList_put rfl 26 (.tmp 11) (.tmp 35) rfl _ #[.int .i64 0, .int .i64 0, .slice none 0 0] rfl rfl _ _ (hc7.blk (Blk.new1 _ _ _ (by simp)) (by omega)) ndSize rfl (by simp [Value.oneCell']) ?_; intro w8 hn8 hc8)
            | (refine wpList_bld (o := ⟨some 40, _, _, _, _, _⟩) rfl 29 #[] rfl [] rfl _ arZ_built ?_)
            | (refine wpList_bld (o := ⟨some 41, _, _, _, _, _⟩) rfl 29 #[] rfl [] rfl _ arZ_built ?_)
            | (refine wpList_put rfl 29 (.tmp 6) (.tmp 40) rfl _ arZ rfl rfl _ _ (hc8.blk (hc7.blk (Blk.alloc (Blk.alloc hz2 _) _) (by omega)) (by omega)) arSize rfl (by simp [arZ, Value.oneCell']) ?_; intro w3 hz3 hc3)
            | (refine wpList_put rfl 29 (.tmp 7) (.tmp 41) rfl _ arZ rfl rfl _ _ (hc3.blk (hc8.blk (hc7.blk (Blk.alloc (Blk.alloc hy2 _) _) (by omega)) (by omega)) (by omega)) arSize rfl (by simp [arZ, Value.oneCell']) ?_; intro w4 hy4 hc4))
          exact bodyPost_ret (results_rows2 Tryz.results7 _ _ _ _ _ _ _ _ _ _ rfl (hc4.blk hz3 (by omega)) arDesc rfl arSize rfl hy4 arDesc rfl arSize) rfl ((Hout.out _ _).2 ⟨hc4.ext (hc3.ext (hc8.ext (hc7.ext (((he0.trans he1).trans he2).trans ((Ext.alloc _ _).trans (Ext.alloc _ _))) (by have := he2.size; have := he0.size; omega)) (by have := he2.size; have := he0.size; omega)) (by omega)) (by omega), by rw [if_pos Hone.out]; rfl⟩)
        · have Hone := Lib.hid hone
          have hn2 : 2 ≤ a.nd.ents.length := by
            have h1 := (node_iff.1 HI.out.node).l1
            have h2 := Hlen.out
            omega
          have hnl := Hlen.out
          have hn8 : a.nd.ents.length ≤ 120 := (node_iff.1 HI.out.node).l2
          have hnone : ¬ a.nd.ents.length = 1 := by omega
          have HS2 : Hid (∀ W, Ext w W → Calls Tryz.prog 25 #[.agg #[.int .i64 a.nd.level, .int .i64 a.nd.next, .slice q a.nd.ents.length c]] W fun e' W' => Ext W W' ∧ ∃ q1 c1 q2 c2, e' = .returned (.tuple #[.agg #[.int .i64 a.nd.level, .int .i64 0, .slice q1 ((a.nd.ents.length + 1) / 2 : Nat) c1], .agg #[.int .i64 a.nd.level, .int .i64 a.nd.next, .slice q2 (a.nd.ents.length - (a.nd.ents.length + 1) / 2) c2], .string ⟨((entAt a.nd.ents ((a.nd.ents.length + 1) / 2 - 1)).1).toArray⟩, .int .i64 0]) ∧
              W'.ownsRow W.heap.size 51 2 (.slice q1 ((a.nd.ents.length + 1) / 2) c1) ((a.nd.ents.length + 1) / 2) (entCells (clrL (a.nd.ents.take ((a.nd.ents.length + 1) / 2)))) ∧
              ∃ B2, W.heap.size ≤ B2 ∧ (∀ g, q1 = some ⟨g, 0, none⟩ → g < B2) ∧ W'.ownsRow B2 51 2 (.slice q2 (a.nd.ents.length - (a.nd.ents.length + 1) / 2) c2) (a.nd.ents.length - (a.nd.ents.length + 1) / 2) (entCells (a.nd.ents.drop ((a.nd.ents.length + 1) / 2)))) := Lib.hid (fun W e => (HS.out W e).mono (fun e' W' h => by rw [if_neg hnone] at h; exact h))
          have HL : Hid (leftA a base = ⟨a.base, ⟨a.nd.level, base, clrL (a.nd.ents.take ((a.nd.ents.length + 1) / 2))⟩, a.ivs.take ((a.nd.ents.length + 1) / 2)⟩) := Lib.hid rfl
          have HR : Hid (rightA a base = ⟨base, ⟨a.nd.level, a.nd.next, renumP (base + 1) (a.nd.ents.drop ((a.nd.ents.length + 1) / 2))⟩, a.ivs.drop ((a.nd.ents.length + 1) / 2)⟩) := Lib.hid rfl
          have HMd : Hid (midA a = (entAt a.nd.ents ((a.nd.ents.length + 1) / 2 - 1)).1) := Lib.hid rfl
          have hK1 : (a.nd.ents.length + 1) / 2 < a.nd.ents.length := by omega
          have hK0 : 1 ≤ (a.nd.ents.length + 1) / 2 := by omega
          have hl1 : (clrL (a.nd.ents.take ((a.nd.ents.length + 1) / 2))).length = (a.nd.ents.length + 1) / 2 := by rw [clrL_len, List.length_take]; omega
          have hl2 : (a.nd.ents.drop ((a.nd.ents.length + 1) / 2)).length = a.nd.ents.length - (a.nd.ents.length + 1) / 2 := List.length_drop
          generalize hE1 : clrL (a.nd.ents.take ((a.nd.ents.length + 1) / 2)) = E1 at *
          generalize hE2 : a.nd.ents.drop ((a.nd.ents.length + 1) / 2) = E2 at *
          generalize (entAt a.nd.ents ((a.nd.ents.length + 1) / 2 - 1)).1 = bel at *
          generalize leftA a base = LA at *
          generalize rightA a base = RAr at *
          generalize midA a = MA at *
          generalize (a.nd.ents.length + 1) / 2 = K at *
          have Hl1 := Lib.hid hl1
          have Hl2 := Lib.hid hl2
          have Hnl := Lib.hid hnl
          clear hE1 hE2 hl1 hl2 hnl hone hnone HS hn2
          go_upto_region 6 with (first
            | ((with_reducible (show wpList _ _ _ (⟨some 16, _, _, _, _, _⟩ :: _) _ _)); refine wpList_ds (o := ⟨some 16, _, _, _, _, _⟩) rfl (.tmp 3) rfl _ rfl d hd0 ?_)
            | ((with_reducible (show wpList _ _ _ (⟨some 17, _, _, _, _, _⟩ :: _) _ _)); refine wpList_row (o := ⟨some 17, _, _, _, _, _⟩) rfl 29 (.tmp 4) rfl _ rfl _ _ _ ha0 arDesc rfl arSize ?_)
            | (go_at_call 24; refine (HV.out _ he0).mono ?_; rintro e w1 ⟨rfl, he1⟩; have hz1 := he1.blk _ _ hz0; have hy1 := he1.blk _ _ hy0; have ha1 := ha0.ext he1; have sz1 := he1.size)
            | ((with_reducible (show wpList _ _ _ (⟨some 32, _, _, _, _, _⟩ :: _) _ _)); refine wpList_part (o := ⟨some 32, _, _, _, _, _⟩) rfl 26 (.tmp 31) rfl (w.heap.size + 1) 1 rfl _ (arC a q c p m) #[.int .i64 a.nd.level, .int .i64 a.nd.next, .slice q a.nd.ents.length c] _ ha1 (ar_part a q c p m) ndDesc rfl ndSize ?_)
            | (go_at_call 25; refine (HS2.out _ (he0.trans he1)).mono ?_; rintro e w2 ⟨he2, q1, c1, q2, c2, rfl, hoA, B2, hB2, hlB, hoB⟩; have hz2 := he2.blk _ _ hz1; have hy2 := he2.blk _ _ hy1; have lz2 := Blk.lt hz2; have ly2 := Blk.lt hy2)
            | (refine wpList_put rfl 26 (.tmp 10) (.tmp 34) rfl _ #[.int .i64 a.nd.level, .int .i64 0, .slice q1 K c1] rfl rfl _ _ (Blk.alloc (Blk.new w2 _) _) ndSize rfl (by simp [Value.oneCell']) ?_; intro w7 hn7 hc7)
            | (refine wpList_put rfl 26 (.tmp 11) (.tmp 35) rfl _ #[.int .i64 a.nd.level, .int .i64 a.nd.next, .slice q2 (a.nd.ents.length - K) c2] rfl rfl _ _ (hc7.blk (Blk.new1 _ _ _ (by simp)) (by omega)) ndSize rfl (by simp [Value.oneCell']) ?_; intro w8 hn8 hc8))
          have hx28 : Ext w2 w8 := hc8.ext (hc7.ext ((Ext.alloc _ _).trans (Ext.alloc _ _)) (Nat.le_refl _)) (by omega)
          obtain ⟨g1, cu1, rfl, hg1, hb1, _⟩ := own_parts hoA (by omega)
          obtain ⟨g2, cu2, rfl, hg2, hb2, _⟩ := own_parts hoB (by omega)
          have hgne : g1 ≠ g2 := by have := hlB g1 rfl; omega
          have lg1 := Blk.lt hb1
          have lg2 := Blk.lt hb2
          have hs1 := he1.size
          refine wp_name (fun w9 => Ext w1 w9 ∧ Blk w9 w2.heap.size (.cells #[.int .i64 a.nd.level, .int .i64 0, .slice (some ⟨g1, 0, none⟩) K c1] 26) ∧ Blk w9 (w2.heap.size + 1) (.cells #[.int .i64 a.nd.level, .int .i64 a.nd.next, .slice (some ⟨g2, 0, none⟩) (a.nd.ents.length - K) c2] 26) ∧ w9.ownsRow w1.heap.size 51 2 (.slice (some ⟨g1, 0, none⟩) K c1) K (entCells E1) ∧ w9.ownsRow B2 51 2 (.slice (some ⟨g2, 0, none⟩) (a.nd.ents.length - K) c2) (a.nd.ents.length - K) (entCells E2))
            ⟨he2.trans hx28, hc8.blk hn7 (by omega), hn8, own_ext hoA hx28, own_ext hoB hx28⟩ ?_
          have Hx1 := Lib.hid (he0.trans he1)
          have Hz1 := Lib.hid hz1
          have Hy1 := Lib.hid hy1
          have Ha1 := Lib.hid ha1
          have hs2 := he2.size
          have hge := he0.size
          have hBw : w.heap.size ≤ w1.heap.size := Nat.le_trans hge hs1
          clear hx28 hn7 hn8 hc7 hc8 hoA hoB hb1 hb2 he0 he1 he2 hz0 hy0 hz1 hy1 hz2 hy2 hd0 ha0 ha1 hlB HV HS2
          generalize hna : w2.heap.size = na at *
          rintro w9 ⟨hx9, hnA, hnB, hoA, hoB⟩
          have a1 := Blk.val hnA 1 _ rfl
          have f1 := Blk.free hnA 1
          have la := Blk.lt hnA
          have lb := Blk.lt hnB
          have hch : Chg na w9 (w9.setCell ⟨na, 1, none⟩ (.int .i64 base)) := Chg.setCell
          go_upto_region 8 with (fail)
          refine wp_name (fun wx => Ext w1 wx ∧ Blk wx na (.cells #[.int .i64 a.nd.level, .int .i64 base, .slice (some ⟨g1, 0, none⟩) K c1] 26) ∧ Blk wx (na + 1) (.cells #[.int .i64 a.nd.level, .int .i64 a.nd.next, .slice (some ⟨g2, 0, none⟩) (a.nd.ents.length - K) c2] 26) ∧ wx.ownsRow w1.heap.size 51 2 (.slice (some ⟨g1, 0, none⟩) K c1) K (entCells E1) ∧ wx.ownsRow B2 51 2 (.slice (some ⟨g2, 0, none⟩) (a.nd.ents.length - K) c2) (a.nd.ents.length - K) (entCells E2))
            ⟨hch.ext hx9 (by omega), Blk.setCell hnA, hch.blk hnB (by omega), own_chgN hoA hch (by omega), own_chgN hoB hch (by omega)⟩ ?_
          clear hch hx9 hnA hnB hoA hoB a1 f1 la lb
          rintro wx ⟨hxx, hnA, hnB, hoA, hoB⟩
          go_loopw [14] (fun i wr => ∃ k : Nat, k ≤ a.nd.ents.length - K ∧ i = .int .i64 k ∧ Ext w1 wr ∧ Blk wr na (.cells #[.int .i64 a.nd.level, .int .i64 base, .slice (some ⟨g1, 0, none⟩) K c1] 26) ∧ Blk wr (na + 1) (.cells #[.int .i64 a.nd.level, .int .i64 a.nd.next, .slice (some ⟨g2, 0, none⟩) (a.nd.ents.length - K) c2] 26) ∧ wr.ownsRow w1.heap.size 51 2 (.slice (some ⟨g1, 0, none⟩) K c1) K (entCells E1) ∧ wr.ownsRow B2 51 2 (.slice (some ⟨g2, 0, none⟩) (a.nd.ents.length - K) c2) (a.nd.ents.length - K) (entCells (renTo (base + 1) E2 k))) (fun i _ => a.nd.ents.length - K - (intOf i).toNat)
          case atStart => exact ⟨0, Nat.zero_le _, rfl, hxx, hnA, hnB, hoA, by simpa [renTo, renumP] using hoB⟩
          case round =>
            clear hxx hnA hnB hoA hoB
            obtain ⟨k, hk, rfl, hxx, hnA, hnB, hoA, hoB⟩ := hrel
            by_cases hlt : k < a.nd.ents.length - K
            · have hltI : (k : Int) < ((a.nd.ents.length - K : Nat) : Int) := by omega
              obtain ⟨hoN, hfr, ⟨old, hvl⟩, hlg, hgB⟩ := own_entPg hoB hlt (base + 1 + k)
              have b2 := Blk.val hnB 2 _ rfl
              have lb := Blk.lt hnB
              have hbk : base + 1 + (k : Int) ≤ 20000000 := by omega
              have hch := Lib.hid (show Chg g2 wr (wr.setCell ⟨g2, k * 2 + 1, none⟩ (.int .i64 (base + 1 + k))) from Chg.setCell)
              have HW := Lib.hid (And.intro hxx (And.intro hnA (And.intro hnB hoA)))
              have HN : Hid ((wr.setCell ⟨g2, k * 2 + 1, none⟩ (.int .i64 (base + 1 + k))).ownsRow B2 51 2 (.slice (some ⟨g2, 0, none⟩) (a.nd.ents.length - K) c2) (a.nd.ents.length - K) (entCells (renTo (base + 1) E2 (k + 1)))) := Lib.hid (by
                rw [renTo_step (by rw [Hl2.out]; omega)] at hoN
                exact hoN)
              clear hxx hnA hnB hoA hoB hoN hgB
              go_wp2_with fail
              go_roundw
              case rel => exact ⟨k + 1, by omega, by go_num, hch.out.ext HW.out.1 (by omega), hch.out.blk HW.out.2.1 (by omega), hch.out.blk HW.out.2.2.1 (by omega), own_chgN HW.out.2.2.2 hch.out (by omega), HN.out⟩
              case measure => simp [intOf]; omega
            · have hltI : decide ((k : Int) < ((a.nd.ents.length - K : Nat) : Int)) = false := by simp; omega
              have hkn : k = E2.length := by have := Hl2.out; omega
              have e8 : renTo (base + 1) E2 k = renumP (base + 1) E2 := by rw [hkn]; simp [renTo]
              rw [e8] at hoB
              clear e8 hkn
              have a2 := Blk.val hnA 2 _ rfl
              have la := Blk.lt hnA
              have b2 := Blk.val hnB 2 _ rfl
              have lb := Blk.lt hnB
              go_upto_region 12 with (fail)
              have hnI := Hnl.out
              obtain ⟨gp, gpo, vp, rfl, hgp, _⟩ := (Hv.out.ivs.ext (Hx1.out.trans hxx)).at 0 (by omega)
              obtain ⟨vs, hcv, hrv⟩ := Hv.out.ivs
              have hvl : vs.length = a.ivs.length := hrv.1
              have hkl : (vs.take K).length = K * 1 := by rw [List.length_take, hvl]; omega
              have hdl : (vs.drop K).length = (a.ivs.length - K) * 1 := by rw [List.length_drop, hvl]; omega
              have hzy := Hz1.out
              have hzlt := Blk.lt Hz1.out
              have hylt := Blk.lt Hy1.out
              have hxr := hxx.size
              have hnal := Blk.lt hnA
              have hnbl := Blk.lt hnB
              have hcx := cutV_ext wr (w.heap.size + 1 + 1)
              have hcs := cutV_size (w := wr) (B := w.heap.size + 1 + 1) (by omega)
              generalize cutV wr (w.heap.size + 1 + 1) = wc at hcx hcs
              have hwc : Ext w wc := ext_cut (Hx1.out.trans hxx) hcx (by omega)
              have hbox : ArAt wc (w.heap.size + 1) a q c (some ⟨gp, gpo, none⟩) m := blk_cut hcx (by omega) (Ha1.out.ext hxx)
              obtain ⟨e0, _, _, _, e4, le⟩ := hbox.cells
              have HS1 : Hid (∀ W, Ext wc W → ∃ ad, (some ⟨gp, gpo, none⟩ : Option Addr) = some ad ∧ ∀ j u, (vs.take K)[j]? = some u → W.cell? (ad.add j) = some u) := Lib.hid (fun W e =>
                cells_src (Cells.take (hcv.ext (hwc.trans e)) K) (fun h0 => by rw [h0, List.length_nil] at hkl; omega))
              have HS2 : Hid (∀ W, Ext wc W → ∃ ad, (some ⟨gp, gpo + K, none⟩ : Option Addr) = some ad ∧ ∀ j u, (vs.drop K)[j]? = some u → W.cell? (ad.add j) = some u) := Lib.hid (fun W e =>
                cells_src (Cells.drop (hcv.ext (hwc.trans e)) K) (fun h0 => by rw [h0, List.length_nil] at hdl; omega))
              have Hkl := Lib.hid hkl
              have Hdl := Lib.hid hdl
              have Hcx := Lib.hid hcx
              have Hcs := Lib.hid hcs
              have HS : Hid (∃ S : World → Prop, (S = fun W => Blk W na (.cells #[.int .i64 a.nd.level, .int .i64 base, .slice (some ⟨g1, 0, none⟩) K c1] 26) ∧ Blk W (na + 1) (.cells #[.int .i64 a.nd.level, .int .i64 a.nd.next, .slice (some ⟨g2, 0, none⟩) (a.nd.ents.length - K) c2] 26) ∧ W.ownsRow w1.heap.size 51 2 (.slice (some ⟨g1, 0, none⟩) K c1) K (entCells E1) ∧ W.ownsRow B2 51 2 (.slice (some ⟨g2, 0, none⟩) (a.nd.ents.length - K) c2) (a.nd.ents.length - K) (entCells (renumP (base + 1) E2))) ∧ S wr) := Lib.hid ⟨_, rfl, hnA, hnB, hoA, hoB⟩
              obtain ⟨S, hSd, hS0⟩ := HS.out
              have HSd : Hid (∀ W, S W → Blk W na (.cells #[.int .i64 a.nd.level, .int .i64 base, .slice (some ⟨g1, 0, none⟩) K c1] 26) ∧ Blk W (na + 1) (.cells #[.int .i64 a.nd.level, .int .i64 a.nd.next, .slice (some ⟨g2, 0, none⟩) (a.nd.ents.length - K) c2] 26) ∧ W.ownsRow w1.heap.size 51 2 (.slice (some ⟨g1, 0, none⟩) K c1) K (entCells E1) ∧ W.ownsRow B2 51 2 (.slice (some ⟨g2, 0, none⟩) (a.nd.ents.length - K) c2) (a.nd.ents.length - K) (entCells (renumP (base + 1) E2))) := Lib.hid (fun W h => by rw [hSd] at h; exact h)
              have hSE : ∀ W W', Ext W W' → S W → S W' := fun W W' e h => by rw [hSd] at h ⊢; exact ⟨e.blk _ _ h.1, e.blk _ _ h.2.1, own_ext h.2.2.1 e, own_ext h.2.2.2 e⟩
              have hSR : ∀ b W W', RA b W W' → S W → S W' := fun b W W' r h => by rw [hSd] at h ⊢; exact ⟨blk_ra r h.1 (by decide), blk_ra r h.2.1 (by decide), own_ra r h.2.2.1 (by decide), own_ra r h.2.2.2 (by decide)⟩
              have HSE := Lib.hid hSE
              have HSR := Lib.hid hSR
              have HS0 := Lib.hid hS0
              have HZY := Lib.hid (And.intro (hxx.blk _ _ Hz1.out) (hxx.blk _ _ Hy1.out))
              have hKm : K ≤ m := by have := Hv.out.ic; omega
              have hKmI : (K : Int) ≤ m := by omega
              have hKv : K ≤ a.ivs.length := by omega
              have hKvI : (K : Int) ≤ a.ivs.length := by omega
              have hmK : ¬ m = K := by have := Hv.out.ic; omega
              have Hrv := Lib.hid (hrv.ext hwc)
              have Hwc := Lib.hid hwc
              have Hxx := Lib.hid hxx
              have hvs8 : a.ivs.length ≤ 1000 := by omega
              have hK8 : K ≤ 1000 := by omega
              clear hkl hdl hcv hvl hxx hnA hnB hoA hoB a2 la b2 lb hgp hnI HS hSd hS0 hSE hSR hrv hwc hbox hcx hcs hzlt hylt hxr hnal hnbl hzy
              refine Pre.wp_region_pk 200 [(20, [(0, 64)]), (21, [(13, 77)])] (Hcx.out) (by kernel_rfl) (by kernel_rfl) (by kernel_rfl) (by kernel_rfl) (by kernel_rfl) (by kernel_rfl) (gok_A2 (G1 := AreaG (w.heap.size + 1 + 1) a.base a.nd.level base (some ⟨g1, 0, none⟩) K c1 K wc.heap.size (vs.take K) (fun _ => True)) (G2 := AreaG (w.heap.size + 1 + 1 + 1) base a.nd.level a.nd.next (some ⟨g2, 0, none⟩) (a.nd.ents.length - K) c2 (a.ivs.length - K) wc.heap.size (vs.drop K) S) (by rw [Hcs.out]; omega) (by rw [Hcs.out]; omega) (AreaG.stable _ _ _ _ _ _ _ _ _ _ _ (fun _ _ _ _ => trivial)) (AreaG.stable _ _ _ _ _ _ _ _ _ _ _ HSE.out) (fun v w w' r h => by obtain ⟨⟨p9, m9, h1, h2⟩, h3⟩ := h; exact ⟨⟨p9, m9, r.2.blk h1 (by omega), own_ra r h2 (by decide)⟩, trivial⟩) (by kernel_rfl) (by kernel_rfl) (fun _ => trivial) (fun v w w' r h => by obtain ⟨⟨p9, m9, h1, h2⟩, h3⟩ := h; exact ⟨⟨p9, m9, r.2.blk h1 (by omega), own_ra r h2 (by decide)⟩, HSR.out _ _ _ r h3⟩)) (prok_A2 (S := S) (by kernel_rfl) (by omega) HSE.out (HSR.out _)) (fun p hp => ⟨HS0.out, HZY.out.2, fun _ => HZY.out.1⟩) ?_
              simp only [List.take_succ_cons, List.take_zero, List.take_nil, List.drop_succ_cons, List.drop_zero, List.drop_nil, List.map_cons, List.map_nil]
              repeat (first
                | (refine Pre.wpPL_det (o := ⟨some 66, _, _, _, _, _⟩) (v := .agg #[.int .i64 a.nd.level, .int .i64 base, .slice (some ⟨g1, 0, none⟩) K c1]) (fun k v => Pre.KeepsP.is _ _ _ _ k v) (by kernel_rfl) (by first | exact .inl rfl | exact .inr ⟨_, _, _, rfl, rfl, rfl⟩) ?_ ?_
                   · intro a' w' he0 hp hr K' hK
                     have hw := hp 21 (by kernel_rfl) (by kernel_rfl)
                     simp [Reads, Oper.looksAt, Op.operands, factAt, Is] at hr
                     exact wp_load_row 26 (.tmp 10) rfl na (by go_simp) _ _ _ _ (HSd.out _ hw.1).1 ndDesc rfl ndSize (hK _ (Ext.refl _))
                   simp only [setL, List.set_cons_succ, List.set_cons_zero])
                | (refine Pre.wpPL_det (o := ⟨some 75, _, _, _, _, _⟩) (v := .agg #[.int .i64 a.nd.level, .int .i64 a.nd.next, .slice (some ⟨g2, 0, none⟩) (a.nd.ents.length - K) c2]) (fun k v => Pre.KeepsP.is _ _ _ _ k v) (by kernel_rfl) (by first | exact .inl rfl | exact .inr ⟨_, _, _, rfl, rfl, rfl⟩) ?_ ?_
                   · intro a' w' he0 hp hr K' hK
                     have hw := hp 21 (by kernel_rfl) (by kernel_rfl)
                     simp [Reads, Oper.looksAt, Op.operands, factAt, Is] at hr
                     exact wp_load_row 26 (.tmp 11) rfl (na + 1) (by go_simp) _ _ _ _ (HSd.out _ hw.1).2.1 ndDesc rfl ndSize (hK _ (Ext.refl _))
                   simp only [setL, List.set_cons_succ, List.set_cons_zero])
                | (refine Pre.wpPL_step (o := ⟨some 67, _, _, _, _, _⟩) (NoneF 43 wc.heap.size) (NoneF.stable _ _) (keepA2 NoneF.ra) (by kernel_rfl) (by first | exact .inl rfl | exact .inr ⟨_, _, _, rfl, rfl, rfl⟩) ?_ ?_
                   · intro a' w' he0 hp hr K' hK
                     go_simp
                     exact hK _ _ (Ext.alloc _ _) ⟨_, rfl, Blk.new _ _, he0.size⟩
                   simp only [setL, List.set_cons_succ, List.set_cons_zero])
                | (refine Pre.wpPL_step (o := ⟨some 76, _, _, _, _, _⟩) (NoneF 43 wc.heap.size) (NoneF.stable _ _) (keepA2 NoneF.ra) (by kernel_rfl) (by first | exact .inl rfl | exact .inr ⟨_, _, _, rfl, rfl, rfl⟩) ?_ ?_
                   · intro a' w' he0 hp hr K' hK
                     go_simp
                     exact hK _ _ (Ext.alloc _ _) ⟨_, rfl, Blk.new _ _, he0.size⟩
                   simp only [setL, List.set_cons_succ, List.set_cons_zero])
                | (refine Pre.wpPL_step (o := ⟨some 72, _, _, _, _, _⟩) (RowsF 43 wc.heap.size 1 K (vs.take K)) (RowsF.stable _ _ _ _ _) (keepA2 RowsF.ra) (by kernel_rfl) (by first | exact .inl rfl | exact .inr ⟨_, _, _, rfl, rfl, rfl⟩) ?_ ?_
                   · intro a' w' he0 hp hr K' hK
                     obtain ⟨b, hb1, hb2, hb3⟩ := hr 67 (by simp [Oper.looksAt, Op.operands, Call.operands])
                     have hs := hr 71 (by simp [Oper.looksAt, Op.operands, Call.operands])
                     refine wp_append0 (.tmp 67) (.tmp 71) 27 43 rfl wc.heap.size (.slice none 0 0) 1 24 Tryz.underlying27 infoRowA rfl b hb1 hb2 hb3 (some ⟨gp, gpo, none⟩) K m (vs.take K) hs Hkl.out (fun _ => HS1.out _ he0) (by omega) (by decide) he0.size ?_
                     intro v' w'' ho' he'
                     obtain ⟨q', c', rfl⟩ := own_slice ho'
                     exact hK _ _ he' ⟨q', c', rfl, ho'⟩
                   simp only [setL, List.set_cons_succ, List.set_cons_zero])
                | (refine Pre.wpPL_step (o := ⟨some 81, _, _, _, _, _⟩) (RowsF 43 wc.heap.size 1 (a.ivs.length - K) (vs.drop K)) (RowsF.stable _ _ _ _ _) (keepA2 RowsF.ra) (by kernel_rfl) (by first | exact .inl rfl | exact .inr ⟨_, _, _, rfl, rfl, rfl⟩) ?_ ?_
                   · intro a' w' he0 hp hr K' hK
                     obtain ⟨b, hb1, hb2, hb3⟩ := hr 76 (by simp [Oper.looksAt, Op.operands, Call.operands])
                     have hs := hr 80 (by simp [Oper.looksAt, Op.operands, Call.operands])
                     refine wp_append0 (.tmp 76) (.tmp 80) 27 43 rfl wc.heap.size (.slice none 0 0) 1 24 Tryz.underlying27 infoRowA rfl b hb1 hb2 hb3 (some ⟨gp, gpo + K, none⟩) (a.ivs.length - K) (m - K) (vs.drop K) hs Hdl.out (fun _ => HS2.out _ he0) (by omega) (by decide) he0.size ?_
                     intro v' w'' ho' he'
                     obtain ⟨q', c', rfl⟩ := own_slice ho'
                     exact hK _ _ he' ⟨q', c', rfl, ho'⟩
                   simp only [setL, List.set_cons_succ, List.set_cons_zero])
                | (refine Pre.wpPL_step (o := ⟨some 73, _, _, _, _, _⟩) (AreaF a.base a.nd.level base (some ⟨g1, 0, none⟩) K c1 K wc.heap.size (vs.take K)) (AreaF.stable _ _ _ _ _ _ _ _ _) (keepA2 AreaF.ra) (by kernel_rfl) (by first | exact .inl rfl | exact .inr ⟨_, _, _, rfl, rfl, rfl⟩) ?_ ?_
                   · intro a' w' he0 hp hr K' hK
                     have h65 := hr 65 (by simp [Oper.looksAt, Op.operands])
                     have h66 := hr 66 (by simp [Oper.looksAt, Op.operands])
                     obtain ⟨q', c', h72, ho'⟩ := hr 72 (by simp [Oper.looksAt, Op.operands])
                     refine wp_build 29 #[(0, .tmp 65), (1, .tmp 66), (2, .tmp 72)] rfl ?_ ?_
                     · rw [show ((#[(0, Operand.tmp 65), (1, Operand.tmp 66), (2, Operand.tmp 72)] : Array (Nat × Operand)).map fun (i, x) => (i, a'.eval x)).toList = [(0, .int .i64 a.base), (1, .agg #[.int .i64 a.nd.level, .int .i64 base, .slice (some ⟨g1, 0, none⟩) K c1]), (2, .slice q' K c')] from by simp only [List.map_toArray, List.map_cons, List.map_nil]; rw [show a'.eval (.tmp 65) = _ from h65, show a'.eval (.tmp 66) = _ from h66, show a'.eval (.tmp 72) = _ from h72], arBuilt]; rfl
                     · rw [show ((#[(0, Operand.tmp 65), (1, Operand.tmp 66), (2, Operand.tmp 72)] : Array (Nat × Operand)).map fun (i, x) => (i, a'.eval x)).toList = [(0, .int .i64 a.base), (1, .agg #[.int .i64 a.nd.level, .int .i64 base, .slice (some ⟨g1, 0, none⟩) K c1]), (2, .slice q' K c')] from by simp only [List.map_toArray, List.map_cons, List.map_nil]; rw [show a'.eval (.tmp 65) = _ from h65, show a'.eval (.tmp 66) = _ from h66, show a'.eval (.tmp 72) = _ from h72], arBuilt]
                       exact hK _ _ (Ext.refl _) ⟨q', c', rfl, ho'⟩
                   simp only [setL, List.set_cons_succ, List.set_cons_zero])
                | (refine Pre.wpPL_step (o := ⟨some 82, _, _, _, _, _⟩) (AreaF base a.nd.level a.nd.next (some ⟨g2, 0, none⟩) (a.nd.ents.length - K) c2 (a.ivs.length - K) wc.heap.size (vs.drop K)) (AreaF.stable _ _ _ _ _ _ _ _ _) (keepA2 AreaF.ra) (by kernel_rfl) (by first | exact .inl rfl | exact .inr ⟨_, _, _, rfl, rfl, rfl⟩) ?_ ?_
                   · intro a' w' he0 hp hr K' hK
                     have h65 := hr 74 (by simp [Oper.looksAt, Op.operands])
                     have h66 := hr 75 (by simp [Oper.looksAt, Op.operands])
                     obtain ⟨q', c', h72, ho'⟩ := hr 81 (by simp [Oper.looksAt, Op.operands])
                     refine wp_build 29 #[(0, .tmp 74), (1, .tmp 75), (2, .tmp 81)] rfl ?_ ?_
                     · rw [show ((#[(0, Operand.tmp 74), (1, Operand.tmp 75), (2, Operand.tmp 81)] : Array (Nat × Operand)).map fun (i, x) => (i, a'.eval x)).toList = [(0, .int .i64 base), (1, .agg #[.int .i64 a.nd.level, .int .i64 a.nd.next, .slice (some ⟨g2, 0, none⟩) (a.nd.ents.length - K) c2]), (2, .slice q' (a.ivs.length - K) c')] from by simp only [List.map_toArray, List.map_cons, List.map_nil]; rw [show a'.eval (.tmp 74) = _ from h65, show a'.eval (.tmp 75) = _ from h66, show a'.eval (.tmp 81) = _ from h72], arBuilt]; rfl
                     · rw [show ((#[(0, Operand.tmp 74), (1, Operand.tmp 75), (2, Operand.tmp 81)] : Array (Nat × Operand)).map fun (i, x) => (i, a'.eval x)).toList = [(0, .int .i64 base), (1, .agg #[.int .i64 a.nd.level, .int .i64 a.nd.next, .slice (some ⟨g2, 0, none⟩) (a.nd.ents.length - K) c2]), (2, .slice q' (a.ivs.length - K) c')] from by simp only [List.map_toArray, List.map_cons, List.map_nil]; rw [show a'.eval (.tmp 74) = _ from h65, show a'.eval (.tmp 75) = _ from h66, show a'.eval (.tmp 81) = _ from h72], arBuilt]
                       exact hK _ _ (Ext.refl _) ⟨q', c', rfl, ho'⟩
                   simp only [setL, List.set_cons_succ, List.set_cons_zero])
                | (refine Pre.wpPL_pivot (o := ⟨none, _, _, _, _, _⟩) Any Any.stable (keepA2 (fun _ _ _ _ _ _ => trivial)) (by kernel_rfl) (by first | exact .inl rfl | exact .inr ⟨_, _, _, rfl, rfl, rfl⟩) ?_ ?_
                   · intro a' w' he0 hp hr K' hK
                     have hw := hp 20 (by kernel_rfl) (by kernel_rfl)
                     have h6 := hr 6 (by simp [Oper.looksAt, Op.operands])
                     obtain ⟨p9, m9, h73, ho9⟩ := hr 73 (by simp [Oper.looksAt, Op.operands])
                     refine wp_store_row 29 (.tmp 6) (.tmp 73) rfl (w.heap.size + 1 + 1) #[.int .i64 a.base, .int .i64 a.nd.level, .int .i64 base, .slice (some ⟨g1, 0, none⟩) K c1, .slice p9 K m9] h6 h73 _ _ (hw.2.2 rfl) arSize rfl (by simp [Value.oneCell']) ?_
                     exact hK _ _ ⟨⟨_, hw.2.2 rfl⟩, Chg.setRow⟩ trivial (fun x hx hxi y hy => by
                       simp at hx
                       rcases hx with rfl | rfl
                       · simp at hy
                         subst hy
                         exact ⟨⟨p9, m9, Blk.setRow (hw.2.2 rfl), own_ra (show RA (w.heap.size + 1 + 1) _ _ from ⟨⟨_, hw.2.2 rfl⟩, Chg.setRow⟩) ho9 (by decide)⟩, trivial⟩
                       · simp at hxi)
                   simp only [setL, List.set_cons_succ, List.set_cons_zero])
                | (refine Pre.wpPL_pivot (o := ⟨none, _, _, _, _, _⟩) Any Any.stable (keepA2 (fun _ _ _ _ _ _ => trivial)) (by kernel_rfl) (by first | exact .inl rfl | exact .inr ⟨_, _, _, rfl, rfl, rfl⟩) ?_ ?_
                   · intro a' w' he0 hp hr K' hK
                     have hw := hp 21 (by kernel_rfl) (by kernel_rfl)
                     have h6 := hr 7 (by simp [Oper.looksAt, Op.operands])
                     obtain ⟨p9, m9, h73, ho9⟩ := hr 82 (by simp [Oper.looksAt, Op.operands])
                     refine wp_store_row 29 (.tmp 7) (.tmp 82) rfl (w.heap.size + 1 + 1 + 1) #[.int .i64 base, .int .i64 a.nd.level, .int .i64 a.nd.next, .slice (some ⟨g2, 0, none⟩) (a.nd.ents.length - K) c2, .slice p9 (a.ivs.length - K) m9] h6 h73 _ _ hw.2.1 arSize rfl (by simp [Value.oneCell']) ?_
                     exact hK _ _ ⟨⟨_, hw.2.1⟩, Chg.setRow⟩ trivial (fun x hx hxi y hy => by
                       simp at hx
                       rcases hx with rfl | rfl
                       · simp at hxi
                       · simp at hy
                         subst hy
                         exact ⟨⟨p9, m9, Blk.setRow hw.2.1, own_ra (show RA (w.heap.size + 1 + 1 + 1) _ _ from ⟨⟨_, hw.2.1⟩, Chg.setRow⟩) ho9 (by decide)⟩, HSR.out _ _ _ ⟨⟨_, hw.2.1⟩, Chg.setRow⟩ hw.1⟩)
                   simp only [setL, List.set_cons_succ, List.set_cons_zero])
                | (refine Pre.wpPL_move _ _ (by kernel_rfl) (by first | exact .inl rfl | exact .inr ⟨_, _, _, rfl, rfl, rfl⟩) (by first | exact .inl rfl | exact .inr rfl) rfl (by first | exact Is.stable _ | exact RowsF.stable _ _ _ _ _ | exact NoneF.stable _ _ | exact Fresh.stable _ _ _ | exact AppF.stable _ | exact WrF.stable _ | exact PtrF.stable _ _ | exact PlF.stable _ _) (by first | exact Pre.KeepsP.is _ _ _ _ _ _ ) ?_
                   simp only [setL, List.set_cons_succ, List.set_cons_zero, List.getD_cons_succ, List.getD_cons_zero])
                | (apply Pre.wpPL_det (fun k v => Pre.KeepsP.is _ _ _ _ k v) (by kernel_rfl) (by first | exact .inl rfl | exact .inr ⟨_, _, _, rfl, rfl, rfl⟩)
                   · intro a w' he0 hp hr K hK
                     have he := (fun (_ : (0 : Nat) = 0) (_ : (0 : Nat) = 0) => he0) (by kernel_rfl) (by kernel_rfl)
                     simp [Reads, Oper.looksAt, Op.operands, Call.operands, factAt, Is] at hr
                     have hx := he.cell
                     go_simp
                     try go_bits
                     try (rw [if_neg (by omega)]; go_simp)
                     first
                       | exact hK _ (Ext.refl _)
                   simp only [setL, List.set_cons_succ, List.set_cons_zero]))
              intro w2 he2
              simp only [killL, killIn, List.foldl_cons, List.foldl_nil, List.set_cons_succ, List.set_cons_zero]
              repeat (first | with_reducible refine rest_is _ _ _ _ ?_ | (with_reducible refine rest_fact _ _ _ _ ?_; intro _ _) | with_reducible refine rest_end _ _ ?_)
              simp only [List.reverse_cons, List.reverse_nil, List.nil_append, List.cons_append]
              rename_i v1 F1 v2 F2 v3 F3 v4 F4 v5 F5 v6 F6 v7 F7 v8 F8
              clear F2 F3 F4 F5 F7 F8
              simp only [if_true] at F1
              rw [if_neg (by decide)] at F6
              obtain ⟨⟨p9, m9, hzF, hoF1⟩, _⟩ := F1
              obtain ⟨⟨p8, m8, hyF, hoF2⟩, hSF⟩ := F6
              obtain ⟨_, _, hoA, hoB⟩ := HSd.out _ hSF
              clear hSF HSd HSE HSR HS0 HZY HS1 HS2
              go_wp2_with fail
              have hrv2 := Hrv.out.ext he2
              obtain ⟨hcA, hnA1, hnA2⟩ := own_cellsK hoA
              obtain ⟨hcB, hnB1, hnB2⟩ := own_cellsK hoB
              obtain ⟨hcI, hnI1, hnI2⟩ := own_cellsK hoF1
              obtain ⟨hcJ, hnJ1, hnJ2⟩ := own_cellsK hoF2
              have l1 := Hl1.out
              have l3 : (renumP (base + 1) E2).length = a.nd.ents.length - K := by rw [renum_len, Hl2.out]
              have l4 : (a.ivs.take K).length = K := by rw [List.length_take]; omega
              have l5 : (a.ivs.drop K).length = a.ivs.length - K := List.length_drop
              have eA : arC ⟨a.base, ⟨a.nd.level, base, E1⟩, a.ivs.take K⟩ (some ⟨g1, 0, none⟩) c1 p9 m9 = #[.int .i64 a.base, .int .i64 a.nd.level, .int .i64 base, .slice (some ⟨g1, 0, none⟩) K c1, .slice p9 K m9] := by
                unfold arC
                simp only [l1, l4]
              have eB : arC ⟨base, ⟨a.nd.level, a.nd.next, renumP (base + 1) E2⟩, a.ivs.drop K⟩ (some ⟨g2, 0, none⟩) c2 p8 m8 = #[.int .i64 base, .int .i64 a.nd.level, .int .i64 a.nd.next, .slice (some ⟨g2, 0, none⟩) (a.nd.ents.length - K) c2, .slice p8 (a.ivs.length - K) m8] := by
                unfold arC
                simp only [l3, l5]
              refine bodyPost_ret (results_rows2 Tryz.results7 _ _ _ _ _ _ _ _ _ _ rfl hzF arDesc rfl arSize rfl hyF arDesc rfl arSize) rfl ((Hout.out _ _).2 ⟨Hwc.out.trans he2, ?_⟩)
              rw [if_neg Hone.out, HL.out, HR.out, HMd.out]
              exact ⟨some ⟨g1, 0, none⟩, c1, p9, m9, some ⟨g2, 0, none⟩, c2, p8, m8, by rw [eA, eB]; rfl,
                ⟨hcA, ⟨_, hcI, rowsX_take hrv2 K⟩, by simp only [l1]; exact hnA1, by simp only [l4]; exact hnI1, hnI2⟩,
                ⟨hcB, ⟨_, hcJ, rowsX_drop hrv2 K⟩, by simp only [l3]; exact hnB1, by simp only [l5]; exact hnJ1, hnJ2⟩⟩
end Go.Proofs.YtpefkjhiaflonaaGreat
