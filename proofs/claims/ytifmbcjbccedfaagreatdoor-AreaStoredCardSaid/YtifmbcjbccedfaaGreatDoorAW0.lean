/- A part of the proof. -/
import Derived.Test.YtifmbcjbccedfaaGreatDoorAP
import Derived.Test.YtifmbcjbccedfaaGreatDoorAU

set_option linter.unusedSimpArgs false
set_option linter.unusedVariables false
namespace Go.Proofs.YtifmbcjbccedfaaGreatDoor
open Go.RowKit Dsd
theorem own_typed {w : World} {B : Nat} {e : TypeId} {k n : Nat} {v : Value} {xs : List Value} (h : w.ownsRow B e k v n xs) {g : Nat} (hg : v.ownBlock = some g) : ∃ cur, Blk w g (.cells cur e) := by
 obtain ⟨hl, ⟨hv, h0⟩ | ⟨g', cap, cur, hv, h1, h2, _⟩⟩ := h
 · subst hv; simp [Value.ownBlock] at hg
 · subst hv
   simp only [Value.ownBlock, Option.some.injEq] at hg
   subst hg
   exact ⟨cur, h2⟩
theorem own_grown {w w' : World} {B : Nat} {e : TypeId} {k n : Nat} {v : Value} {xs : List Value} {row : Option Nat} (h : w.ownsRow B e k v n xs) (hg : w.grownBy w' row) (hne : ∀ g, v.ownBlock = some g → row ≠ some g) : w'.ownsRow B e k v n xs := by
 obtain ⟨hl, ⟨hv, h0⟩ | ⟨g', cap, cur, hv, h1, h2, h3⟩⟩ := h
 · exact ⟨hl, .inl ⟨hv, h0⟩⟩
 · subst hv
   exact ⟨hl, .inr ⟨g', cap, cur, rfl, h1, Blk.grown h2 hg (hne g' rfl), h3⟩⟩
theorem typed_ne {w : World} {B : Nat} {e t : TypeId} {k n b : Nat} {v : Value} {xs : List Value} {cs : Array Value} (h : w.ownsRow B e k v n xs) (hb : Blk w b (.cells cs t)) (hne : e ≠ t) : v.ownBlock ≠ some b := fun hg => by
 obtain ⟨cur, hc⟩ := own_typed h hg
 exact blk_ne hc hb hne rfl
theorem own_cellsK {w : World} {B : Nat} {e : TypeId} {k n c : Nat} {q : Option Addr} {xs : List Value} (h : w.ownsRow B e k (.slice q n c) n xs) : Cells w q xs ∧ n ≤ c ∧ c ≤ maxLen := by
 obtain ⟨hl, ⟨hv, h0⟩ | ⟨g', cap, cur, hv, h1, h2, h3, h4, h5, h6⟩⟩ := h
 · cases hv
   exact ⟨.inl (List.eq_nil_of_length_eq_zero (by omega)), Nat.le_refl _, by decide⟩
 · cases hv
   exact ⟨cells_take h2 h6, h3, h4⟩
theorem ArV.of_clone {w : World} {B : Nat} {a : Ar} {q : Option Addr} {c : Nat} {p : Option Addr} {m : Nat} {vs : List Value} (h1 : w.ownsRow B 63 2 (.slice q a.nd.ents.length c) a.nd.ents.length (entCells a.nd.ents))
   (h2 : w.ownsRow B 30 1 (.slice p a.ivs.length m) a.ivs.length vs) (h3 : OwnRows w B vs a.ivs) : ArV w a q c p m := by
 obtain ⟨g1, g2, g3⟩ := own_cellsK h1
 obtain ⟨g4, g5, g6⟩ := own_cellsK h2
 exact ⟨g1, ⟨vs, g4, h3.len, fun i hi => RowV.of_own (h3.own i hi)⟩, g2, g5, g6, Typ.of_own h1, Typ.of_own h2⟩
def arZ : Array Value := #[.int .i64 0, .int .i64 0, .int .i64 0, .slice none 0 0, .slice none 0 0]
structure PutSt (w : World) (d : DS) (a : Ar) (q : Option Addr) (c : Nat) (p : Option Addr) (m : Nat) (q1 : Option Addr) (c1 : Nat) (q3 : Option Addr) (c3 : Nat) (xb : Nat) (vs : List Value) (wx : World) : Prop where
 ext : Ext w wx
 ds : DsAt wx w.heap.size d
 ar : ArAt wx (w.heap.size + 1) a q c p m
 res : Blk wx (w.heap.size + 1 + 1) (.cells arZ 29)
 x : ArAt wx xb a q1 c1 q3 c3
 xge : w.heap.size + 1 + 1 < xb
 ents : wx.ownsRow w.heap.size 63 2 (.slice q1 a.nd.ents.length c1) a.nd.ents.length (entCells a.nd.ents)
 rows : wx.ownsRow w.heap.size 30 1 (.slice q3 a.ivs.length c3) a.ivs.length vs
section
variable {w : World} {d : DS} {a : Ar} {q : Option Addr} {c : Nat} {p : Option Addr} {m : Nat} {q1 : Option Addr} {c1 : Nat} {q3 : Option Addr} {c3 : Nat} {xb : Nat} {vs : List Value} {w1 w2 : World}
theorem PutSt.more (h : PutSt w d a q c p m q1 c1 q3 c3 xb vs w1) (e : Ext w1 w2) : PutSt w d a q c p m q1 c1 q3 c3 xb vs w2 :=
 ⟨h.ext.trans e, h.ds.ext e, h.ar.ext e, e.blk _ _ h.res, h.x.ext e, h.xge, own_ext h.ents e, own_ext h.rows e⟩
theorem PutSt.grown (h : PutSt w d a q c p m q1 c1 q3 c3 xb vs w1) {v : Value} {n : Nat} {xs : List Value} (ho : w1.ownsRow w.heap.size 9 1 v n xs) (hg : w1.grownBy w2 v.ownBlock) : PutSt w d a q c p m q1 c1 q3 c3 xb vs w2 :=
 ⟨Ext.trans' h.ext (Below.of_grown hg ho (Nat.le_refl _) h.ext.size), Blk.grown h.ds hg (typed_ne ho h.ds (by decide)), Blk.grown h.ar hg (typed_ne ho h.ar (by decide)), Blk.grown h.res hg (typed_ne ho h.res (by decide)), Blk.grown h.x hg (typed_ne ho h.x (by decide)), h.xge,
   own_grown h.ents hg (fun g hv he => by
     obtain ⟨c1, hc1⟩ := own_typed h.ents hv
     exact typed_ne ho hc1 (by decide) he),
   own_grown h.rows hg (fun g hv he => by
     obtain ⟨c1, hc1⟩ := own_typed h.rows hv
     exact typed_ne ho hc1 (by decide) he)⟩
end
def Others (wx : World) (B : Nat) (vs : List Value) (V : List Recs) (i : Nat) : Prop := ∀ j, j < V.length → j ≠ i → wx.ownsRow B 9 1 (vs.getD j undef) (V.getD j []).length ((V.getD j []).map fun s => .string ⟨s.toArray⟩)
theorem Others.ext {w1 w2 : World} {B : Nat} {vs : List Value} {V : List Recs} {i : Nat} (h : Others w1 B vs V i) (e : Ext w1 w2) : Others w2 B vs V i := fun j hj hji => own_ext (h j hj hji) e
theorem Others.chgT {w1 w2 : World} {B g : Nat} {t : TypeId} {cs : Array Value} {vs : List Value} {V : List Recs} {i : Nat} (h : Others w1 B vs V i) (hb : Blk w1 g (.cells cs t)) (hne : 9 ≠ t) (c : Chg g w1 w2) : Others w2 B vs V i := fun j hj hji => own_chgT (h j hj hji) hne hb c
theorem OwnRows.others {w1 w2 : World} {B : Nat} {vs : List Value} {V : List Recs} {i : Nat} (h : OwnRows w1 B vs V) (hi : i < V.length) (hg : w1.grownBy w2 (vs.getD i undef).ownBlock) : Others w2 B vs V i := fun j hj hji =>
 own_grown (h.own j hj) hg fun g hv he => by
   rcases Nat.lt_or_gt_of_ne hji with hlt | hlt
   · exact h.apart j i g hlt hi hv he
   · exact h.apart i j g hlt hj he hv
theorem OwnRows.ext {w1 w2 : World} {B : Nat} {vs : List Value} {V : List Recs} (h : OwnRows w1 B vs V) (e : Ext w1 w2) : OwnRows w2 B vs V := ⟨h.len, fun i hi => own_ext (h.own i hi) e, h.apart⟩
theorem Others.set {wx : World} {B : Nat} {vs : List Value} {V : List Recs} {i : Nat} (h : Others wx B vs V i) (hl : vs.length = V.length) (hi : i < V.length) {v : Value} {L : Recs} (hv : RowV wx v L) : RowsV wx (vs.set i v) (V.set i L) := by
 refine ⟨by simp [hl], fun j hj => ?_⟩
 rw [List.length_set] at hj
 by_cases hji : j = i
 · subst hji
   rw [getD_set_same (by omega)]
   have e : (V.set j L).getD j [] = L := by simp [List.getD, hj]
   rw [e]; exact hv
 · rw [getD_set_ne (fun e => hji e.symm)]
   have e : (V.set i L).getD j [] = V.getD j [] := by rw [List.getD, List.getElem?_set_ne (fun e => hji e.symm)]; rfl
   rw [e]; exact RowV.of_own (h j hj hji)
theorem PutSt.store {w : World} {d : DS} {a : Ar} {q : Option Addr} {c : Nat} {p : Option Addr} {m : Nat} {q1 : Option Addr} {c1 : Nat} {g : Nat} {c3 : Nat} {xb : Nat} {vs : List Value} {w1 : World} {i : Nat} (h : PutSt w d a q c p m q1 c1 (some ⟨g, 0, none⟩) c3 xb vs w1) (hi : i < a.ivs.length) (v : Value) :
   PutSt w d a q c p m q1 c1 (some ⟨g, 0, none⟩) c3 xb (vs.set i v) (w1.setCell ⟨g, i, none⟩ v) := by
 obtain ⟨g', hq, hg0, hgl, hgf, hgc, hgs⟩ := own_set h.rows i hi
 simp only [Option.some.injEq, Addr.mk.injEq, and_true] at hq
 subst hq
 obtain ⟨g2, cu, hq, _, hbg, _⟩ := own_parts h.rows (by omega)
 simp only [Option.some.injEq, Addr.mk.injEq, and_true] at hq
 subst hq
 have c0 : Chg g w1 (w1.setCell ⟨g, i, none⟩ v) := Chg.setCell
 exact ⟨c0.ext h.ext hg0, c0.blk h.ds (blk_ne h.ds hbg (by decide)), c0.blk h.ar (blk_ne h.ar hbg (by decide)), c0.blk h.res (blk_ne h.res hbg (by decide)), c0.blk h.x (blk_ne h.x hbg (by decide)), h.xge, own_chgT h.ents (by decide) hbg c0, (hgs v).1⟩
theorem PutSt.result {w : World} {d : DS} {a : Ar} {q : Option Addr} {c : Nat} {p : Option Addr} {m : Nat} {q1 : Option Addr} {c1 : Nat} {q3 : Option Addr} {c3 : Nat} {xb : Nat} {vs : List Value} {w1 w2 : World} {i : Nat} {v : Value} {L : Recs} (h : PutSt w d a q c p m q1 c1 q3 c3 xb (vs.set i v) w1) (hi : i < a.ivs.length) (hvl : vs.length = a.ivs.length)
   (ho : w1.ownsRow w.heap.size 9 1 v L.length (L.map fun s => .string ⟨s.toArray⟩)) (hO : Others w1 w.heap.size vs a.ivs i) (k : Chg (w.heap.size + 1 + 1) w1 w2) : Ext w w2 ∧ ArV w2 { a with ivs := a.ivs.set i L } q1 c1 q3 c3 := by
 obtain ⟨g1, g2, g3⟩ := own_cellsK (own_chgT h.ents (by decide) h.res k)
 obtain ⟨g4, g5, g6⟩ := own_cellsK (own_chgT h.rows (by decide) h.res k)
 refine ⟨k.ext h.ext (by omega), g1, ⟨vs.set i v, g4, (hO.chgT h.res (by decide) k).set hvl hi (RowV.of_own (own_chgT ho (by decide) h.res k))⟩, g2, by simpa using g5, g6, Typ.of_own (own_chgT h.ents (by decide) h.res k), Typ.of_own (own_chgT h.rows (by decide) h.res k)⟩
theorem putL_len (d : DS) (r : List UInt8) : ∀ (L : Recs), (putL d r L).length ≤ L.length + 1
 | [] => by simp [putL]
 | s :: L => by
   have := putL_len d r L
   rw [putL]
   split
   · simp; omega
   · split <;> simp
theorem arZ_built : Tryz.prog.built 29 [] = some arZ := by kernel_rfl
theorem inv_small {d : DS} {a : Ar} (s : ASpec d a) : a.nd.ents.length ≤ 120 ∧ a.ivs.length ≤ 120 ∧ 0 < a.nd.ents.length ∧ 0 < a.ivs.length ∧ ∀ i, (a.ivs.getD i []).length ≤ 1000000 := by
 have h2 := (node_iff.1 s.node).l2
 have h1 := (node_iff.1 s.node).l1
 have h3 := s.len
 refine ⟨h2, by omega, by omega, by omega, fun i => ?_⟩
 by_cases hi : i < a.ivs.length
 · have := (fits_small (s.iv hi).1).1; omega
 · simp [List.getD, List.getElem?_eq_none (show a.ivs.length ≤ i by omega)]
end Go.Proofs.YtifmbcjbccedfaaGreatDoor
namespace Dsd
abbrev AOp := List UInt8 × Bool
end Dsd
namespace Go.Proofs.YtifmbcjbccedfaaGreatDoor
open Go.RowKit Dsd
def AOps (w : World) (p : Option Addr) (L : List AOp) : Prop :=
 L = [] ∨ ∃ b off, p = some ⟨b, off, none⟩ ∧ b < w.heap.size ∧ ∀ i, i < L.length → w.cell? ⟨b, off + i * 2, none⟩ = some (.string ⟨(L.getD i ([], false)).1.toArray⟩) ∧ w.cell? ⟨b, off + i * 2 + 1, none⟩ = some (.bool (L.getD i ([], false)).2)
theorem AOps.ext {w w' : World} {p : Option Addr} {L : List AOp} (h : AOps w p L) (e : Ext w w') : AOps w' p L := by
 rcases h with h | ⟨b, off, hp, hb, hc⟩
 · exact .inl h
 · exact .inr ⟨b, off, hp, Nat.lt_of_lt_of_le hb e.size, fun i hi => ⟨(e.cell b _ hb).trans (hc i hi).1, (e.cell b _ hb).trans (hc i hi).2⟩⟩
theorem AOps.at {w : World} {p : Option Addr} {L : List AOp} (h : AOps w p L) (k : Nat) (hk : k < L.length) :
   ∃ b off, p = some ⟨b, off, none⟩ ∧ b < w.heap.size ∧ ∀ i, i < L.length → w.cell? ⟨b, off + i * 2, none⟩ = some (.string ⟨(L.getD i ([], false)).1.toArray⟩) ∧ w.cell? ⟨b, off + i * 2 + 1, none⟩ = some (.bool (L.getD i ([], false)).2) := by
 rcases h with h | h
 · subst h; simp at hk
 · exact h
def shortA (L : List AOp) (most : Int) : Bool := L.all (fun x => decide (x.1.length ≤ 300)) && decide ((L.length : Int) ≤ most)
set_option maxRecDepth 100000 in
theorem ShortA_any (p : Option Addr) (c : Nat) (L : List AOp) (most : Int) (w : World) (hs : AOps w p L) (hm : L.length ≤ 9223372036854775807) :
   Calls Tryz.prog 17 #[.slice p L.length c, .int .i64 most] w fun e w' => e = .returned (.bool (shortA L most)) ∧ w' = w := by
 have HE : Hid (shortA L most = (L.all (fun x => decide (x.1.length ≤ 300)) && decide ((L.length : Int) ≤ most))) := Lib.hid rfl
 have Hs := Lib.hid hs
 clear hs
 go_enter Tryz.func17, Tryz.ntmps17
 go_wp2_with fail
 obtain ⟨wo, rfl⟩ : ∃ wo : World, wo = w := ⟨_, rfl⟩
 go_loopw [5] (fun i wr => ∃ k : Nat, k ≤ L.length ∧ i = .int .i64 k ∧ Hid (L.all (fun x => decide (x.1.length ≤ 300)) = (L.drop k).all (fun x => decide (x.1.length ≤ 300))) ∧ wr = wo) (fun i _ => L.length - (intOf i).toNat)
 case atStart => exact ⟨0, Nat.zero_le _, rfl, Lib.hid rfl, rfl⟩
 case round =>
   obtain ⟨k, hk, rfl, hall, rfl⟩ := hrel
   by_cases hlt : k < L.length
   · have hltI : (k : Int) < L.length := by omega
     obtain ⟨b, off, rfl, hb, hc⟩ := Hs.out.at k hlt
     obtain ⟨hc1, _⟩ := hc k hlt
     have hd : Hid ((L.drop k).all (fun x => decide (x.1.length ≤ 300)) = (decide ((L.getD k ([], false)).1.length ≤ 300) && (L.drop (k + 1)).all (fun x => decide (x.1.length ≤ 300)))) := Lib.hid (by
       rw [List.drop_eq_getElem_cons hlt, List.all_cons]
       simp [List.getD, hlt])
     generalize L.getD k ([], false) = x at *
     clear hc
     by_cases h3 : x.1.length ≤ 300
     · have i1 : decide (300 < (x.1.length : Int)) = false := decide_eq_false (by omega)
       have hn := Lib.hid (show L.all (fun x => decide (x.1.length ≤ 300)) = (L.drop (k + 1)).all (fun x => decide (x.1.length ≤ 300)) by rw [hall.out, hd.out, decide_eq_true h3, Bool.true_and])
       clear h3
       go_wp2
       go_roundw
       case rel => exact ⟨k + 1, by omega, by go_num, hn, by trivial⟩
       case measure => simp [intOf]; omega
     · have i1 : decide (300 < (x.1.length : Int)) = true := decide_eq_true (by omega)
       have hn := Lib.hid (show L.all (fun x => decide (x.1.length ≤ 300)) = false by rw [hall.out, hd.out, decide_eq_false h3, Bool.false_and])
       clear h3
       go_wp2
       go_ret
       exact ⟨by rw [HE.out, hn.out]; rfl, rfl⟩
   · have hltI : decide ((k : Int) < L.length) = false := by simp; omega
     have hn := Lib.hid (show L.all (fun x => decide (x.1.length ≤ 300)) = true by rw [hall.out, List.drop_eq_nil_of_le (by omega)]; rfl)
     go_wp2
     go_ret
     exact ⟨by rw [HE.out, hn.out]; rfl, rfl⟩
end Go.Proofs.YtifmbcjbccedfaaGreatDoor
