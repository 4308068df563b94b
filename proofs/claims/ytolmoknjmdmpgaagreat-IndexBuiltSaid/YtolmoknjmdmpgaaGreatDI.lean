/- The walks of package index's Locate. -/
import Derived.Test.YtolmoknjmdmpgaaGreatDH
set_option linter.unusedSimpArgs false
set_option linter.unusedVariables false
namespace Go.Proofs.YtolmoknjmdmpgaaGreat
open Go.RowKit Dsd
theorem intC_snoc (L : List Int) (x : Int) : intC (L ++ [x]) = intC L ++ [.int .i64 x] := by simp [intC]
def RL (B pb : Nat) (old : Array Value) : Nat → Rel := fun i => if i = 8 then (fun w w' => RTy B 3 w w' ∧ Blk w pb (.cells old 30)) else RTy B 30
def PrL (B pb : Nat) (q : Option Addr) (k c : Nat) (xs : List Value) (S : World → Prop) : Nat → World → Prop := fun p w =>
  (p = 8 → w.ownsRow B 3 1 (.slice q k c) k xs) ∧ (p = 9 → Blk w pb (.cells #[.slice q k c] 30) ∧ S w)
def EndL (B pb k : Nat) (xs : List Value) (S : World → Prop) : Fact := fun _ w => ∃ q' c', Blk w pb (.cells #[.slice q' (k + 1) c'] 30) ∧ w.ownsRow B 3 1 (.slice q' (k + 1) c') (k + 1) xs ∧ S w
def GL (B pb k : Nat) (xs : List Value) (S : World → Prop) : Nat → Nat → Fact := fun p _ => if p = 9 then EndL B pb k xs S else Any
theorem gok_L {l : List Oper} {w0 : World} {B pb k c : Nat} {q : Option Addr} {xs : List Value} {S : World → Prop} (hSe : ∀ w w', Ext w w' → S w → S w') (hB : w0.heap.size ≤ B) (m1 : mustB .any l 1 9 = true) :
    GOk l w0 [(8, [(7, 12)]), (9, [(1, 6)])] (RL B pb #[.slice q k c]) (GL B pb k xs S) := by
  refine ⟨fun i w w' h => ?_, fun i j => ?_, fun p j i hk hp hne x a b h hx => ?_, fun p j hk => ?_⟩
  · have hb : Below B w w' := by
      unfold RL at h
      split at h
      · exact h.1.1
      · exact h.1
    exact ⟨hb.os, hb.tape, hb.output, hb.size, fun k hk => hb.block k (by omega)⟩
  · unfold GL
    split
    · exact fun _ _ _ he ⟨q', c', h1, h2, h3⟩ => ⟨q', c', he.blk _ _ h1, own_ext h2 he, hSe _ _ he h3⟩
    · exact Any.stable
  · simp [killB] at hk
    simp [pivB] at hp
    unfold GL at hx ⊢
    rcases hk with ⟨rfl, _⟩ | ⟨rfl, _⟩
    · trivial
    · rw [if_pos rfl] at hx ⊢
      obtain ⟨q', c', h1, h2, _⟩ := hx
      rcases hp with rfl | rfl
      · obtain ⟨_, h3⟩ := h
        have h4 := Option.some.inj (h1.symm.trans h3)
        simp at h4
      · exact absurd rfl hne
  · simp [killB] at hk
    unfold GL
    rcases hk with ⟨rfl, _⟩ | ⟨rfl, rfl⟩
    · exact .inl rfl
    · exact .inr m1
theorem prok_L {l : List Oper} {N B pb k c : Nat} {q : Option Addr} {xs : List Value} {S : World → Prop} (hSe : ∀ w w', Ext w w' → S w → S w') (hSr : ∀ w w', RTy B 3 w w' → S w → S w') (m1 : mustB .any l 8 9 = true) (hB : orderB .any l.toArray N = true) :
    Pre.PrOk .any l.toArray [(8, [(7, 12)]), (9, [(1, 6)])] (RL B pb #[.slice q k c]) (PrL B pb q k c xs S) := by
  refine ⟨fun p _ w w' he ⟨h1, h2⟩ => ⟨fun e => own_ext (h1 e) he, fun e => ⟨he.blk _ _ (h2 e).1, hSe _ _ he (h2 e).2⟩⟩, fun p q hp hq hne => ?_⟩
  simp [pivB] at hp hq
  rcases hp with rfl | rfl
  · rcases hq with rfl | rfl
    · exact absurd rfl hne
    · exact .inl (mustB_must hB m1)
  · rcases hq with rfl | rfl
    · exact .inr fun w w' r ⟨h1, h2⟩ => ⟨fun e => by omega, fun _ => ⟨r.1.2 _ _ _ (by decide) (h2 rfl).1, hSr _ _ r.1 (h2 rfl).2⟩⟩
    · exact absurd rfl hne
/-- What Locate's visitor may turn. -/
def TL (B : Nat) (w w' : World) : Prop := Below B w w' ∧ ∀ b cs t, t ≠ 3 → t ≠ 30 → Blk w b (.cells cs t) → Blk w' b (.cells cs t)
/-- The path so far. -/
def PathIn (B pb : Nat) (L : List Int) (w : World) : Prop := B ≤ pb ∧ ∃ q c, Blk w pb (.cells #[.slice q L.length c] 30) ∧ w.ownsRow B 3 1 (.slice q L.length c) L.length (intC L)
set_option maxRecDepth 100000 in
set_option maxHeartbeats 4000000 in
theorem Locate1_any (B pb : Nat) (L : List Int) (nd : Nd) (qe : Option Addr) (ce i : Nat) (w : World) (hS : PathIn B pb L w) {B0 : Nat} (hne : w.ownsRow B0 75 2 (.slice qe nd.ents.length ce) nd.ents.length (entCells nd.ents)) (hi : i < nd.ents.length) (hl : nd.ents.length ≤ 1000) (hL : L.length ≤ 1000) (hBw : B ≤ w.heap.size) :
    Calls Tryz.prog 28 #[.agg #[.int .i64 nd.level, .int .i64 nd.next, .slice qe nd.ents.length ce], .int .i64 (i : Nat), .pointer (some ⟨pb, 0, none⟩)] w fun e w' => e = .returned (.tuple #[]) ∧ PathIn B pb (L ++ [(entAt nd.ents i).2]) w' ∧ TL B w w' := by
  obtain ⟨hBp, q, c, hp0, ho0⟩ := hS
  obtain ⟨k, hk⟩ : ∃ k, L.length = k := ⟨_, rfl⟩
  obtain ⟨g, cur, rfl, hg0, hge, _, _, hcs, hct⟩ := own_parts hne (by omega)
  have hcur : cur[i * 2 + 1]? = some (.int .i64 (entAt nd.ents i).2) := by
    have h1 := (entCells_at _ _ hi).2
    have h2 : cur.toList[i * 2 + 1]? = (entCells nd.ents)[i * 2 + 1]? := by
      rw [← hct, List.getElem?_take]
      rw [if_pos (by omega)]
    rw [← Array.getElem?_toList, h2, h1]
  have hx0 := Ext.alloc w (.cells #[.int .i64 nd.level, .int .i64 nd.next, .slice (some ⟨g, 0, none⟩) nd.ents.length ce] 53)
  have hn0 := Blk.new w (.cells #[.int .i64 nd.level, .int .i64 nd.next, .slice (some ⟨g, 0, none⟩) nd.ents.length ce] 53)
  have hEnd : Hid (∀ L2, L2 = L ++ [(entAt nd.ents i).2] → ∀ q' c' W, Blk W pb (.cells #[.slice q' (L.length + 1) c'] 30) → W.ownsRow B 3 1 (.slice q' (L.length + 1) c') (L.length + 1) (intC (L ++ [(entAt nd.ents i).2])) → PathIn B pb L2 W) := Lib.hid (fun L2 e q' c' W h1 h2 => by
    subst e
    refine ⟨hBp, q', c', ?_, ?_⟩
    · simpa using h1
    · simpa using h2)
  generalize (entAt nd.ents i).2 = x at *
  have hiI : (i : Int) < nd.ents.length := by omega
  clear hne hct hcs hi
  generalize nd.ents.length = ne at *
  rw [hk] at hp0 ho0 hEnd
  go_enter Tryz.func28, Tryz.ntmps28
  go_upto_region 1 with (fail)
  have hp1 := hx0.blk _ _ hp0
  have ho1 := own_ext ho0 hx0
  have hg1 := hx0.blk _ _ hge
  generalize w.alloc (.cells #[.int .i64 nd.level, .int .i64 nd.next, .slice (some ⟨g, 0, none⟩) ne ce] 53) = w1 at *
  have hcx := cutD_ext w1 B
  have hcs := cutD_size (w := w1) (B := B) (by have := hx0.size; omega)
  generalize cutD w1 B = wc at hcx hcs
  obtain ⟨S, hSd⟩ : ∃ S : World → Prop, S = fun W => (Blk W w.heap.size (.cells #[.int .i64 nd.level, .int .i64 nd.next, .slice (some ⟨g, 0, none⟩) ne ce] 53) ∧ Blk W g (.cells cur 75)) ∧ ∀ b cs t, t ≠ 3 → t ≠ 30 → Blk w b (.cells cs t) → Blk W b (.cells cs t) := ⟨_, rfl⟩
  have HSe : Hid (∀ W W', Ext W W' → S W → S W') := Lib.hid (fun W W' e h => by rw [hSd] at h ⊢; exact ⟨⟨e.blk _ _ h.1.1, e.blk _ _ h.1.2⟩, fun b cs t h1 h2 h3 => e.blk _ _ (h.2 b cs t h1 h2 h3)⟩)
  have HSr : Hid (∀ W W', RTy B 3 W W' → S W → S W') := Lib.hid (fun W W' r h => by rw [hSd] at h ⊢; exact ⟨⟨r.2 _ _ _ (by decide) h.1.1, r.2 _ _ _ (by decide) h.1.2⟩, fun b cs t h1 h2 h3 => r.2 _ _ _ h1 (h.2 b cs t h1 h2 h3)⟩)
  have HSs : Hid (∀ W W', RTy B 30 W W' → S W → S W') := Lib.hid (fun W W' r h => by rw [hSd] at h ⊢; exact ⟨⟨r.2 _ _ _ (by decide) h.1.1, r.2 _ _ _ (by decide) h.1.2⟩, fun b cs t h1 h2 h3 => r.2 _ _ _ h2 (h.2 b cs t h1 h2 h3)⟩)
  have HS0 : Hid (S w1) := Lib.hid (by rw [hSd]; exact ⟨⟨hn0, hg1⟩, fun b cs t _ _ h3 => hx0.blk _ _ h3⟩)
  have HE1 : Hid (∀ W, S W → W.cell? ⟨w.heap.size, 2, none⟩ = some (.slice (some ⟨g, 0, none⟩) ne ce) ∧ w.heap.size < W.heap.size) := Lib.hid (fun W h => by rw [hSd] at h; exact ⟨Blk.val h.1.1 2 _ rfl, Blk.lt h.1.1⟩)
  have HE2 : Hid (∀ W, S W → W.cell? ⟨g, i * 2 + 1, none⟩ = some (.int .i64 x) ∧ g < W.heap.size) := Lib.hid (fun W h => by rw [hSd] at h; exact ⟨Blk.val h.1.2 _ _ hcur, Blk.lt h.1.2⟩)
  have HE3 : Hid (∀ W, S W → w.heap.size ≤ W.heap.size ∧ ∀ b cs t, t ≠ 3 → t ≠ 30 → Blk w b (.cells cs t) → Blk W b (.cells cs t)) := Lib.hid (fun W h => by rw [hSd] at h; exact ⟨by have := Blk.lt h.1.1; omega, h.2⟩)
  have HC := Lib.hid (And.intro hx0 hcx)
  clear hSd hn0 hg1 hx0 hge hcur hp0 ho0
  refine Pre.wp_region_pk 200 [(8, [(7, 12)]), (9, [(1, 6)])] (hcx) (by kernel_rfl) (by kernel_rfl) (by kernel_rfl) (by kernel_rfl) (by kernel_rfl) (by kernel_rfl) (gok_L (B := B) (pb := pb) (k := k) (c := c) (q := q) (xs := intC (L ++ [x])) (S := S) HSe.out (by omega) (by kernel_rfl)) (prok_L (xs := intC L) (S := S) HSe.out HSr.out (by kernel_rfl)) (fun p hp => ⟨fun _ => ho1, fun _ => ⟨hp1, HS0.out⟩⟩) ?_
  simp only [List.take_succ_cons, List.take_zero, List.take_nil, List.drop_succ_cons, List.drop_zero, List.drop_nil, List.map_cons, List.map_nil]
  repeat (first
    | (refine Pre.wpPL_det (o := ⟨some 5, _, _, _, _, _⟩) (v := .slice q k c) (fun k v => Pre.KeepsP.is _ _ _ _ k v) (by kernel_rfl) (by first | exact .inl rfl | exact .inr ⟨_, _, _, rfl, rfl, rfl⟩) ?_ ?_
       · intro a' w' he0 hp hr K' hK
         have hw := ((hp 9 (by kernel_rfl) (by kernel_rfl)).2 rfl).1
         have hv := Blk.val hw 0 _ rfl
         have hl := Blk.lt hw
         simp [Reads, Oper.looksAt, Op.operands, Call.operands, factAt, Is] at hr
         go_simp
         exact hK _ (Ext.refl _)
       simp only [setL, List.set_cons_succ, List.set_cons_zero])
    | (refine Pre.wpPL_det (o := ⟨some 7, _, _, _, _, _⟩) (v := .slice (some ⟨g, 0, none⟩) ne ce) (fun k v => Pre.KeepsP.is _ _ _ _ k v) (by kernel_rfl) (by first | exact .inl rfl | exact .inr ⟨_, _, _, rfl, rfl, rfl⟩) ?_ ?_
       · intro a' w' he0 hp hr K' hK
         obtain ⟨hv, hl⟩ := HE1.out _ ((hp 9 (by kernel_rfl) (by kernel_rfl)).2 rfl).2
         simp [Reads, Oper.looksAt, Op.operands, Call.operands, factAt, Is] at hr
         go_simp
         exact hK _ (Ext.refl _)
       simp only [setL, List.set_cons_succ, List.set_cons_zero])
    | (refine Pre.wpPL_det (o := ⟨some 11, _, _, _, _, _⟩) (v := .int .i64 x) (fun k v => Pre.KeepsP.is _ _ _ _ k v) (by kernel_rfl) (by first | exact .inl rfl | exact .inr ⟨_, _, _, rfl, rfl, rfl⟩) ?_ ?_
       · intro a' w' he0 hp hr K' hK
         obtain ⟨hv, hl⟩ := HE2.out _ ((hp 9 (by kernel_rfl) (by kernel_rfl)).2 rfl).2
         simp [Reads, Oper.looksAt, Op.operands, Call.operands, factAt, Is] at hr
         go_simp
         exact hK _ (Ext.refl _)
       simp only [setL, List.set_cons_succ, List.set_cons_zero])
    | (refine Pre.wpPL_step (o := ⟨some 12, _, _, _, _, _⟩) (Fresh 1 1 (.cells #[.int .i64 x] 3)) (Fresh.stable _ _ _) (fun x hx => by
         simp at hx
         rcases hx with rfl | rfl
         · exact .inl (by kernel_rfl)
         · exact .inr (fun v w w' r h => by obtain ⟨b, h1, h2⟩ := h; exact ⟨b, h1, r.2 _ _ _ (by decide) h2⟩)) (by kernel_rfl) (by first | exact .inl rfl | exact .inr ⟨_, _, _, rfl, rfl, rfl⟩) ?_ ?_
       · intro a' w' he0 hp hr K' hK
         simp [Reads, Oper.looksAt, Op.operands, Call.operands, factAt, Is] at hr
         go_simp
         exact hK _ _ (Ext.alloc _ _) (Fresh.new _ _ _ _)
       simp only [setL, List.set_cons_succ, List.set_cons_zero])
    | (refine Pre.wpPL_pivot (o := ⟨some 13, _, _, _, _, _⟩) (RowsF 3 B 1 (k + 1) (intC (L ++ [x]))) (RowsF.stable _ _ _ _ _) (fun x hx => by
         simp at hx
         rcases hx with rfl | rfl
         · exact .inl (by kernel_rfl)
         · exact .inr (fun v w w' r h => by obtain ⟨q', c', h1, h2⟩ := h; exact ⟨q', c', h1, own_rty h2 (by decide) r⟩)) (by kernel_rfl) (by first | exact .inl rfl | exact .inr ⟨_, _, _, rfl, rfl, rfl⟩) ?_ ?_
       · intro a' w' he0 hp hr K' hK
         have hn := ((hp 9 (by kernel_rfl) (by kernel_rfl)).2 rfl).1
         have ho := (hp 8 (by kernel_rfl) (by kernel_rfl)).1 rfl
         have h46 := hr 5 (by simp [Oper.looksAt, Op.operands, Call.operands])
         obtain ⟨b, hb1, hb2⟩ := hr 12 (by simp [Oper.looksAt, Op.operands, Call.operands])
         have hsz : B ≤ w'.heap.size := by have := he0.size; omega
         refine wp_appk (.tmp 5) (.tmp 12) 30 3 rfl B (.int .i64 0) 1 8 Tryz.underlying30 infoInt rfl (by decide) _ k _ h46 ho (some ⟨b, 0, none⟩) 1 1 [.int .i64 x] hb1 rfl rfl (blk_cells (ys := [.int .i64 x]) hb2) (by intro u hu; simp at hu; subst hu; rfl) (by omega) (by decide) hsz ?_
         intro v' w'' ho' hg
         obtain ⟨q', c', rfl⟩ := own_slice ho'
         exact hK _ _ ⟨rty_app hg ho hsz, hn⟩ ⟨q', c', rfl, by rw [intC_snoc]; exact ho'⟩ (fun x hx hxi y hy => by
           simp at hx
           rcases hx with rfl | rfl
           · trivial
           · simp at hxi)
       simp only [setL, List.set_cons_succ, List.set_cons_zero])
    | (refine Pre.wpPL_pivot (o := ⟨none, _, _, _, _, _⟩) Any Any.stable (fun x hx => .inr fun _ _ _ _ _ => trivial) (by kernel_rfl) (by first | exact .inl rfl | exact .inr ⟨_, _, _, rfl, rfl, rfl⟩) ?_ ?_
       · intro a' w' he0 hp hr K' hK
         have hn := ((hp 9 (by kernel_rfl) (by kernel_rfl)).2 rfl).1
         have h53 : a'.tmps.getD 2 undef = .pointer (some ⟨pb, 0, none⟩) := hr 2 (by simp [Oper.looksAt, Op.operands])
         obtain ⟨q', c', h52, ho⟩ := hr 13 (by simp [Oper.looksAt, Op.operands])
         have hv := Blk.val hn 0 _ rfl
         have hf := Blk.free hn 0
         have hl := Blk.lt hn
         have h52 : a'.tmps.getD 13 undef = .slice q' (k + 1) c' := h52
         simp at h53 h52
         go_simp
         exact hK undef _ (rty_chg hn hBp Chg.setCell) trivial (fun x hx hxi y hy => by
           simp at hx
           rcases hx with rfl | rfl
           · simp at hxi
           · simp at hy
             subst hy
             exact ⟨q', c', Blk.setCell hn, own_rty ho (by decide) (rty_chg hn hBp Chg.setCell), HSs.out _ _ (rty_chg hn hBp Chg.setCell) ((hp 9 (by kernel_rfl) (by kernel_rfl)).2 rfl).2⟩)
       simp only [setL, List.set_cons_succ, List.set_cons_zero])
    | (refine Pre.wpPL_move _ _ (by kernel_rfl) (by first | exact .inl rfl | exact .inr ⟨_, _, _, rfl, rfl, rfl⟩) (by first | exact .inl rfl | exact .inr rfl) rfl (by first | exact Is.stable _ | exact RowsF.stable _ _ _ _ _ | exact NoneF.stable _ _ | exact Fresh.stable _ _ _ | exact AppF.stable _ | exact WrF.stable _ | exact PtrF.stable _ _ | exact PlF.stable _ _) (by first | exact Pre.KeepsP.is _ _ _ _ _ _ ) ?_
       simp only [setL, List.set_cons_succ, List.set_cons_zero, List.getD_cons_succ, List.getD_cons_zero])
    | (apply Pre.wpPL_det (fun k v => Pre.KeepsP.is _ _ _ _ k v) (by kernel_rfl) (by first | exact .inl rfl | exact .inr ⟨_, _, _, rfl, rfl, rfl⟩)
       · intro a w' he0 hp hr K hK
         have he := (fun (_ : (0 : Nat) = 0) (_ : (0 : Nat) = 0) => he0) (by kernel_rfl) (by kernel_rfl)
         simp [Reads, Oper.looksAt, Op.operands, Call.operands, factAt, Is] at hr
         have hx := he.cell
         go_simp
         try go_bits
         try (rw [if_neg (by omega)]; go_simp)
         first
           | exact hK _ (Ext.refl _)
       simp only [setL, List.set_cons_succ, List.set_cons_zero]))
  intro w2 he2
  simp only [killL, killIn, List.foldl_cons, List.foldl_nil, List.set_cons_succ, List.set_cons_zero]
  try simp only [List.map_cons, List.map_nil, List.set_cons_succ, List.set_cons_zero, List.getD_cons_succ, List.getD_cons_zero]
  repeat (first | with_reducible refine rest_is _ _ _ _ ?_ | (with_reducible refine rest_fact _ _ _ _ ?_; intro _ _) | with_reducible refine rest_end _ _ ?_)
  try simp only [List.reverse_cons, List.reverse_nil, List.nil_append, List.cons_append]
  rename_i v1 F1 v2 F2 v3 F3
  have F1' : EndL B pb k (intC (L ++ [x])) S v1 w2 := F1
  obtain ⟨q', c', hp9, ho9, hS9⟩ := F1'
  clear F1 F2 F3
  go_wp2_with fail
  go_end0
  obtain ⟨hxa, hxb⟩ := HC.out
  obtain ⟨hs1, hs2⟩ := HE3.out _ hS9
  exact ⟨rfl, hEnd.out _ rfl q' c' w2 hp9 ho9, ⟨he2.os.trans (hxb.os.symm.trans hxa.os), he2.tape.trans (hxb.tape.symm.trans hxa.tape), he2.output.trans (hxb.output.symm.trans hxa.output), hs1, fun j hj => (he2.block j (by omega)).trans ((hxb.block j (by omega)).symm.trans (hxa.block j (by omega)))⟩, hs2⟩
end Go.Proofs.YtolmoknjmdmpgaaGreat
