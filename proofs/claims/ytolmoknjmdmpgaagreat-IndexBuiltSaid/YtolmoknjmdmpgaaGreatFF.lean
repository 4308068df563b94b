/- Facts on a node that a call hands back, in a region that draws its order. -/
import Derived.Test.YtolmoknjmdmpgaaGreatDD
import Derived.Test.YtolmoknjmdmpgaaGreatXF
import Derived.Test.YtolmoknjmdmpgaaGreatPiv
import Derived.Test.YtolmoknjmdmpgaaGreatEC
import Derived.Test.YtolmoknjmdmpgaaGreatFB
set_option linter.unusedSimpArgs false
set_option linter.unusedVariables false
namespace Go.Proofs.YtolmoknjmdmpgaaGreat
open Go.RowKit Dsd
/-! ### Facts on a node that a call hands back -/
def LdF (B : Nat) (n : Nd) (er : Int) : Fact := fun x w => ∃ q c, x = .tuple #[.agg #[.int .i64 n.level, .int .i64 n.next, .slice q n.ents.length c], .int .i64 er] ∧ w.ownsRow B 75 2 (.slice q n.ents.length c) n.ents.length (entCells n.ents)
theorem LdF.stable (B : Nat) (n : Nd) (er : Int) : (LdF B n er).stable := fun _ _ _ he ⟨q, c, h1, h2⟩ => ⟨q, c, h1, own_ext h2 he⟩
theorem LdF.strong (B : Nat) (n : Nd) (er : Int) (K : Kills) (R : Nat) : (LdF B n er).strong K (fun _ => TChg R 53) := fun _ _ _ _ _ k ⟨q, c, h1, h2⟩ => ⟨q, c, h1, own_tchg h2 (by decide) k⟩
def NvF (B : Nat) (n : Nd) : Fact := fun x w => ∃ q c, x = .agg #[.int .i64 n.level, .int .i64 n.next, .slice q n.ents.length c] ∧ w.ownsRow B 75 2 (.slice q n.ents.length c) n.ents.length (entCells n.ents)
theorem NvF.stable (B : Nat) (n : Nd) : (NvF B n).stable := fun _ _ _ he ⟨q, c, h1, h2⟩ => ⟨q, c, h1, own_ext h2 he⟩
theorem NvF.strong (B : Nat) (n : Nd) (K : Kills) (R : Nat) : (NvF B n).strong K (fun _ => TChg R 53) := fun _ _ _ _ _ k ⟨q, c, h1, h2⟩ => ⟨q, c, h1, own_tchg h2 (by decide) k⟩
def PtrNF (R B : Nat) (n : Nd) : Fact := fun x w => ∃ b, x = .pointer (some ⟨b, 0, none⟩) ∧ ∃ q c, Blk w b (.cells #[.int .i64 n.level, .int .i64 n.next, .slice q n.ents.length c] 53) ∧ w.ownsRow B 75 2 (.slice q n.ents.length c) n.ents.length (entCells n.ents) ∧ R ≤ b
theorem PtrNF.stable (R B : Nat) (n : Nd) : (PtrNF R B n).stable := fun _ _ _ he ⟨b, h1, q, c, h2, h3, h4⟩ => ⟨b, h1, q, c, he.blk _ _ h2, own_ext h3 he, h4⟩
theorem ndBuilt3 (x : Int) (q : Option Addr) (n c : Nat) : Tryz.prog.built 53 [(0, .int .i64 x), (2, .slice q n c)] = some #[.int .i64 x, .int .i64 0, .slice q n c] := by kernel_rfl
theorem ent1Built (k : Int) : Tryz.prog.built 75 [(1, .int .i64 k)] = some #[.string ByteArray.empty, .int .i64 k] := by kernel_rfl
end Go.Proofs.YtolmoknjmdmpgaaGreat
/- The walks of package index's writer: fresh, put, root. -/
namespace Go.Proofs.YtolmoknjmdmpgaaGreat
open Go.RowKit Dsd
def wtC (h : Hd) (d : DS) (v : Value) : Array Value := #[.int .i64 h.applied, .int .i64 h.count, .int .i64 h.fin, .int .i64 h.root, .int .i64 h.height, .int .i64 h.splits, .int .i64 h.areas, .int .i64 d.id, .int .i64 d.org, .int .i64 d.format, .int .i64 d.length, .int .i64 d.block, .int .i64 d.keyAt, .int .i64 d.keyLength, .int .i64 d.interval, .int .i64 d.area, .int .i64 d.freeInterval, .int .i64 d.freeArea, .int .i64 d.base, .int .i64 d.altAt, .int .i64 d.altLength, .bool d.unique, .int .i64 d.cls, .string ⟨d.volume.toArray⟩, .string ⟨d.owner.toArray⟩, .int .i64 d.created, .int .i64 d.expires, .bool d.archived, v]
theorem wtDesc : Tryz.prog.underlying 93 = some (.struct (Tryz.prog.fieldsOf 93)) := by kernel_rfl
theorem wtSize : (Tryz.prog.info? 93).map (·.size) = some 29 := by kernel_rfl
theorem infoWr2 : (Tryz.prog.info? 65).map (fun i => (i.zero, i.size, i.bytes)) = some (some (.agg #[.int .i64 0, .string ByteArray.empty]), 2, 24) := by kernel_rfl
theorem wrBuilt2 (k : Int) (s : ByteArray) : Tryz.prog.built 65 [(0, .int .i64 k), (1, .string s)] = some #[.int .i64 k, .string s] := by kernel_rfl
theorem wrC_snoc2 (L : List Wr) (x : Wr) : wrC (L ++ [x]) = wrC L ++ [.int .i64 x.1, .string ⟨x.2.toArray⟩] := by unfold wrC; rw [List.flatMap_append]; rfl
/-- Blocks of a writer and of page writes turn, behind B. -/
def TWr (B : Nat) (w w' : World) : Prop := Below B w w' ∧ ∀ b cs t, t ≠ 93 → t ≠ 65 → Blk w b (.cells cs t) → Blk w' b (.cells cs t)
theorem TWr.trans {B : Nat} {a b c : World} (h : TWr B a b) (k : TWr B b c) : TWr B a c := ⟨h.1.trans k.1, fun x cs t h1 h2 h3 => k.2 x cs t h1 h2 (h.2 x cs t h1 h2 h3)⟩
theorem TWr.ofExt {B : Nat} {a b : World} (h : Ext a b) (hB : B ≤ a.heap.size) : TWr B a b := ⟨Below.mono h hB, fun x cs t _ _ h3 => h.blk _ _ h3⟩
theorem TWr.ofW {B : Nat} {a b : World} (h : RTy B 93 a b) : TWr B a b := ⟨h.1, fun x cs t h1 _ h3 => h.2 x cs t h1 h3⟩
theorem TWr.ofP {B : Nat} {a b : World} (h : RTy B 65 a b) : TWr B a b := ⟨h.1, fun x cs t _ h2 h3 => h.2 x cs t h2 h3⟩
theorem TWr.own {B : Nat} {w w' : World} {base : Nat} {e : TypeId} {size : Nat} {v : Value} {n : Nat} {xs : List Value} (h : w.ownsRow base e size v n xs) (h1 : e ≠ 93) (h2 : e ≠ 65) (c : TWr B w w') : w'.ownsRow base e size v n xs := by
  refine ⟨h.1, ?_⟩
  rcases h.2 with hn | ⟨b, cap, cur, rfl, hb, hg, rest⟩
  · exact .inl hn
  · exact .inr ⟨b, cap, cur, rfl, hb, c.2 b cur e h1 h2 hg, rest⟩
/-- A writer in memory. -/
def WrS (B wb : Nat) (h : Hd) (d : DS) (L : List Wr) (w : World) : Prop := ∃ q c, Blk w wb (.cells (wtC h d (.slice q L.length c)) 93) ∧ w.ownsRow B 65 2 (.slice q L.length c) L.length (wrC L) ∧ B ≤ wb
theorem WrS.ext {B wb : Nat} {h : Hd} {d : DS} {L : List Wr} {w w' : World} (k : WrS B wb h d L w) (e : Ext w w') : WrS B wb h d L w' := by
  obtain ⟨q, c, h1, h2, h3⟩ := k
  exact ⟨q, c, e.blk _ _ h1, own_ext h2 e, h3⟩
set_option maxRecDepth 100000 in
theorem fresh_any (B wb : Nat) (h : Hd) (d : DS) (L : List Wr) (w : World) (hs : WrS B wb h d L w) (hf : 0 ≤ h.fin ∧ h.fin ≤ 100000000) :
    Calls Tryz.prog 42 #[.pointer (some ⟨wb, 0, none⟩)] w fun e w' => e = .returned (.int .i64 (h.fin + 1)) ∧ WrS B wb { h with fin := h.fin + 1 } d L w' ∧ TWr B w w' := by
  obtain ⟨q, c, hb, ho, hB⟩ := hs
  have HF : Hid (∀ v, v = Value.int .i64 (h.fin + 1) → WrS B wb { h with fin := h.fin + 1 } d L (w.setCell ⟨wb, 2, none⟩ v) ∧ TWr B w (w.setCell ⟨wb, 2, none⟩ v)) := Lib.hid (fun v e => by
    subst e
    exact ⟨⟨q, c, Blk.setCell hb, own_chgT ho (by decide) hb Chg.setCell, hB⟩, TWr.ofW (rty_chg hb hB Chg.setCell)⟩)
  have c2 : w.cell? ⟨wb, 2, none⟩ = some (.int .i64 h.fin) := Blk.val hb 2 _ rfl
  have f2 := Blk.free hb 2
  have lb := Blk.lt hb
  have hw : IntKind.i64.wrap (h.fin + 1) = h.fin + 1 := IntWalk.i64_in _ (by omega)
  have hw2 : wrap64 (h.fin + 1) = h.fin + 1 := IntWalk.wrap64_in _ (by omega)
  clear hb ho hB
  go_enter Tryz.func42, Tryz.ntmps42
  go_wp2
  go_ret
  exact ⟨rfl, HF.out _ rfl⟩
set_option maxRecDepth 100000 in
set_option maxHeartbeats 1000000 in
theorem put_any (B wb : Nat) (h : Hd) (d : DS) (L : List Wr) (page : Int) (n : Nd) (qn : Option Addr) (cn : Nat) (w : World) (hs : WrS B wb h d L w) (hn : Nents w qn n.ents) (hl : n.ents.length ≤ 1000000) (hL : L.length ≤ 1000) :
    Calls Tryz.prog 43 #[.pointer (some ⟨wb, 0, none⟩), .int .i64 page, ndV n qn cn] w fun e w' => e = .returned (.int .i64 (encNE d.interval n)) ∧ WrS B wb h d (L ++ [(page, encNS d.interval n)]) w' ∧ TWr B w w' := by
  have HE := Lib.hid (fun W (e : Ext w W) => EncodeN_any d.interval qn cn n W (hn.ext e) hl)
  unfold ndV at HE ⊢
  obtain ⟨q, c, hb, ho, hB⟩ := hs
  have hn0 := Blk.new w (.cells #[.int .i64 n.level, .int .i64 n.next, .slice qn n.ents.length cn] 53)
  have hx0 := Ext.alloc w (.cells #[.int .i64 n.level, .int .i64 n.next, .slice qn n.ents.length cn] 53)
  have hb0 := hx0.blk _ _ hb
  have ho0 := own_ext ho hx0
  have c14 : World.cell? _ ⟨wb, 14, none⟩ = some (.int .i64 d.interval) := Blk.val hb0 14 _ rfl
  have lb0 := Blk.lt hb0
  generalize hes : encNS d.interval n = es at *
  generalize hee : encNE d.interval n = ee at *
  have Hb1 : Hid (B ≤ w.heap.size) := Lib.hid (by have := Blk.lt hb; omega)
  clear hes hee hb ho hn
  go_enter Tryz.func43, Tryz.ntmps43
  go_upto_region 1 with (fail)
  generalize hw0 : w.alloc (.cells #[.int .i64 n.level, .int .i64 n.next, .slice qn n.ents.length cn] 53) = w0 at *
  have Hx0 := Lib.hid hx0
  refine wp_region_mk 200 (Ext.refl w0) (by kernel_rfl) (by kernel_rfl) (by kernel_rfl) ?_
  simp only [List.take_succ_cons, List.take_zero, List.take_nil, List.drop_succ_cons, List.drop_zero, List.drop_nil, List.map_cons, List.map_nil]
  repeat (first
    | (refine wpML_det (o := ⟨some 15, _, _, _, _, _⟩) (v := .agg #[.int .i64 n.level, .int .i64 n.next, .slice qn n.ents.length cn]) rfl ?_ ?_
       · intro a w' he hr K hK
         simp [Reads, Oper.looksAt, Op.operands, factAt, Is] at hr
         exact wp_load_row 53 (.tmp 5) rfl (w.heap.size) (by go_simp) _ _ _ _ (he.blk _ _ hn0) ndDesc rfl ndSize (hK _ (Ext.refl _))
       simp only [setL, List.set_cons_succ, List.set_cons_zero])
    | (refine wpML_det (o := ⟨some 16, _, _, _, _, _⟩) (v := .tuple #[.string ⟨es.toArray⟩, .int .i64 ee]) rfl ?_ ?_
       · intro a w' he hr K hK
         simp [Reads, Oper.looksAt, Op.operands, Call.operands, factAt, Is] at hr
         go_simp
         refine (HE.out _ (Hx0.out.trans he)).mono ?_
         rintro e w'' ⟨rfl, he''⟩
         exact hK _ he''
       simp only [setL, List.set_cons_succ, List.set_cons_zero])
    | (refine wpML_move _ _ rfl (by first | exact .inl rfl | exact .inr rfl) rfl (by first | exact Is.stable _ | exact AppF.stable _ | exact WrF.stable _ | exact PtrF.stable _ _ | exact IfcF.stable (Fresh.stable _ _ _) _ | exact PairF.stable (RowF.stable _ _ _ _) _ | exact RowF.stable _ _ _ _ | exact Fresh.stable _ _ _) ?_
       simp only [setL, List.set_cons_succ, List.set_cons_zero, List.getD_cons_succ, List.getD_cons_zero])
    | (refine wpML_moveC _ rfl (by first | exact .inl rfl | exact .inr rfl) ?_
       simp only [setL, List.set_cons_succ, List.set_cons_zero])
    | (apply wpML_det rfl
       · intro a w' he hr K hK
         simp [Reads, Oper.looksAt, Op.operands, Call.operands, factAt, Is] at hr
         have hx := he.cell
         go_simp
         try go_bits
         try (rw [if_neg (by omega)]; go_simp)
         first
           | exact hK _ (Ext.refl _)
       simp only [setL, List.set_cons_succ, List.set_cons_zero])
    | (apply wpML_det rfl
       · intro a w' he hr K hK
         simp [Reads, Oper.looksAt, Op.operands, Call.operands, factAt, Fresh] at hr
         obtain ⟨b, hr1, hr2⟩ := hr
         go_simp
         exact hK _ (Ext.refl _)
       simp only [setL, List.set_cons_succ, List.set_cons_zero]))
  intro w2 he2
  repeat (first | with_reducible refine rest_is _ _ _ _ ?_ | (with_reducible refine rest_fact _ _ _ _ ?_; intro _ _) | with_reducible refine rest_end _ _ ?_)
  simp only [List.reverse_cons, List.reverse_nil, List.nil_append, List.cons_append]
  have Hb2 := Lib.hid (he2.blk _ _ hb0)
  have Ho2 := Lib.hid (own_ext ho0 he2)
  have Hx2 := Lib.hid (Hx0.out.trans he2)
  have hb2 := Hb2.out
  have hBw2 : B ≤ w2.heap.size := by have := Blk.lt hb2; omega
  have c28 : w2.cell? ⟨wb, 28, none⟩ = some (.slice q L.length c) := Blk.val hb2 28 _ rfl
  have lb2 := Blk.lt hb2
  clear hb0 ho0 hn0 hx0 c14 lb0 he2 hb2
  go_wp2_with (first
    | ((with_reducible (show wpList _ _ _ (⟨some 26, _, _, _, _, _⟩ :: _) _ _)); refine wpList_bld (o := ⟨some 26, _, _, _, _, _⟩) rfl 65 #[(0, .tmp 24), (1, .tmp 25)] rfl [(0, .int .i64 page), (1, .string ⟨es.toArray⟩)] rfl _ (wrBuilt2 _ _) ?_)
    | (at_builtin; refine wpList_appk (o := ⟨some 28, _, _, _, _, _⟩) rfl (.tmp 23) (.tmp 27) 57 65 rfl B (.agg #[.int .i64 0, .string ByteArray.empty]) 2 24 Tryz.underlying57 infoWr2 rfl (by decide) _ L.length _ rfl (own_ext Ho2.out (Ext.alloc _ _)) (some ⟨w2.heap.size, 0, none⟩) 1 1 [.int .i64 page, .string ⟨es.toArray⟩] rfl rfl rfl (blk_cells (ys := [.int .i64 page, .string ⟨es.toArray⟩]) (Blk.new w2 _)) (by intro u hu; simp at hu; rcases hu with rfl | rfl <;> rfl) (by omega) (by decide) (by simp; omega) ?_; intro v8 w8 ho8 hg8; have r8 := rty_app hg8 (own_ext Ho2.out (Ext.alloc w2 _)) (by simp; omega); obtain ⟨q8, k8, rfl⟩ := own_slice ho8; have hb8 := r8.2 _ _ _ (by decide) ((Ext.alloc w2 _).blk _ _ Hb2.out); have f8 := Blk.free hb8 28; have c8 : w8.cell? ⟨wb, 28, none⟩ = some (.slice q L.length c) := Blk.val hb8 28 _ rfl; have lb8 := Blk.lt hb8; have Hr8 := Lib.hid r8; have Ho8 := Lib.hid ho8; have Hb8 := Lib.hid hb8; clear r8 ho8 hg8 hb8))
  go_ret
  refine ⟨rfl, ⟨q8, k8, ?_, ?_, hB⟩, ?_⟩
  · have := Blk.setCell (i := 28) (v := .slice q8 (L.length + 1) k8) Hb8.out
    rw [List.length_append]
    exact this
  · rw [wrC_snoc2, List.length_append]
    exact own_chgT Ho8.out (by decide) Hb8.out Chg.setCell
  · exact (TWr.ofExt (Hx2.out.trans (Ext.alloc _ _)) (by have := Hx2.out.size; have := Hb1.out; omega)).trans ((TWr.ofP Hr8.out).trans (TWr.ofW (rty_chg Hb8.out hB Chg.setCell)))
set_option maxRecDepth 100000 in
set_option maxHeartbeats 2000000 in
theorem root_any (B wb : Nat) (h : Hd) (d : DS) (L : List Wr) (b : List UInt8) (p : Int) (w : World) (hs : WrS B wb h d L w) (hf : 0 ≤ h.fin ∧ h.fin ≤ 100000000) (hh : 0 ≤ h.height ∧ h.height ≤ 6) (hL : L.length ≤ 900) :
    Calls Tryz.prog 68 #[.pointer (some ⟨wb, 0, none⟩), .string ⟨b.toArray⟩, .int .i64 p] w fun e w' => e = .returned (.int .i64 (addGo d [] h L b p).2.2) ∧ WrS B wb (addGo d [] h L b p).1 d (addGo d [] h L b p).2.1 w' ∧ TWr B w w' := by
  have hBw : B ≤ w.heap.size := by obtain ⟨_, _, hb, _, hB⟩ := hs; have := Blk.lt hb; omega
  have HS := Lib.hid hs
  obtain ⟨q, c, hb, ho, hB⟩ := hs
  by_cases h6 : h.height = 6
  · have e : addGo d [] h L b p = (h, L, 8) := by unfold addGo; rw [if_pos h6]
    rw [e]
    have c4 : w.cell? ⟨wb, 4, none⟩ = some (.int .i64 h.height) := Blk.val hb 4 _ rfl
    rw [h6] at c4
    have lb := Blk.lt hb
    have HT := Lib.hid (TWr.ofExt (Ext.refl w) hBw)
    clear hb ho hB e h6 hh hf
    go_enter Tryz.func68, Tryz.ntmps68
    go_wp2
    go_ret
    exact ⟨rfl, HS.out, HT.out⟩
  · have e : addGo d [] h L b p = ({ h with height := h.height + 1, fin := h.fin + 1, root := h.fin + 1 }, L ++ [(h.fin + 1, encNS d.interval (rootN h b p))], encNE d.interval (rootN h b p)) := by unfold addGo; rw [if_neg h6]
    rw [e]
    have c4 : w.cell? ⟨wb, 4, none⟩ = some (.int .i64 h.height) := Blk.val hb 4 _ rfl
    have f4 := Blk.free hb 4
    have lb := Blk.lt hb
    have h6I : (h.height == 6) = false := by simpa using h6
    have hw : IntKind.i64.wrap (h.height + 1) = h.height + 1 := IntWalk.i64_in _ (by omega)
    have hw2 : wrap64 (h.height + 1) = h.height + 1 := IntWalk.wrap64_in _ (by omega)
    have HF : Hid (∀ v, v = Value.int .i64 (h.height + 1) → WrS B wb { h with height := h.height + 1 } d L (w.setCell ⟨wb, 4, none⟩ v) ∧ TWr B w (w.setCell ⟨wb, 4, none⟩ v)) := Lib.hid (fun v e => by
      subst e
      exact ⟨⟨q, c, Blk.setCell hb, own_chgT ho (by decide) hb Chg.setCell, hB⟩, TWr.ofW (rty_chg hb hB Chg.setCell)⟩)
    have Hf := Lib.hid hf
    clear hb ho hB e h6 hh hf HS
    go_enter Tryz.func68, Tryz.ntmps68
    go_upto_region 4 with (fail)
    refine wp_name (fun w1 => WrS B wb { h with height := h.height + 1 } d L w1 ∧ TWr B w w1) (HF.out _ rfl) ?_
    clear c4 f4 lb HF h6I hw hw2
    rintro w1 ⟨hs1, ht1⟩
    have HS1 := Lib.hid hs1
    have HT1 := Lib.hid ht1
    obtain ⟨q1, c1, hb1, ho1, hB1⟩ := hs1
    have c4 : w1.cell? ⟨wb, 4, none⟩ = some (.int .i64 (h.height + 1)) := Blk.val hb1 4 _ rfl
    have c3 : w1.cell? ⟨wb, 3, none⟩ = some (.int .i64 h.root) := Blk.val hb1 3 _ rfl
    have lb := Blk.lt hb1
    have HB1 := Lib.hid hB1
    have Hbw := Lib.hid hBw
    clear hb1 ho1 hB1 ht1 hBw
    refine wp_region_pk 200 [(17, [(16, 7)])] (Ext.refl w1) (by kernel_rfl) (by kernel_rfl) (by kernel_rfl) (by kernel_rfl) (by kernel_rfl) (by kernel_rfl) (gok_one _ _ 17 16 7 (TChg w1.heap.size 53) (PtrNF w1.heap.size 0 (rootN h b p)) (fun _ _ h => h.below) (PtrNF.stable _ _ _) (by kernel_rfl)) ?_
    simp only [List.take_succ_cons, List.take_zero, List.take_nil, List.drop_succ_cons, List.drop_zero, List.drop_nil, List.map_cons, List.map_nil]
    repeat (first
      | (refine wpPL_step (o := ⟨some 7, _, _, _, _, _⟩) (PtrF w1.heap.size (.cells #[.int .i64 0, .int .i64 0, .slice none 0 0] 53)) (PtrF.stable _ _) (by first | exact .inr (AppF.strong _ _ _ _ (by decide)) | exact .inr (WrF.strong _ _ _ _ (by decide)) | exact .inr (RowsF.strong _ _ _ _ _ _ _ _ (by decide)) | exact .inr (Fresh.strong _ _ _ _ _ _ _ (by decide)) | exact .inr (IfcF.strong (Fresh.strong _ _ _ _ _ _ _ (by decide)) _) | exact .inl (by kernel_rfl)) (by kernel_rfl) (by first | exact .inl rfl | exact .inr ⟨_, _, _, rfl, rfl, rfl⟩) ?_ ?_
         · intro a w' he hr K hK
           go_simp
           exact hK _ _ (Ext.alloc _ _) ⟨_, rfl, Blk.new _ _, he.size⟩
         simp only [setL, List.set_cons_succ, List.set_cons_zero])
      | (refine wpPL_det (o := ⟨some 34, _, _, _, _, _⟩) (v := .agg #[.string ⟨b.toArray⟩, .int .i64 h.root]) (by kernel_rfl) (by first | exact .inl rfl | exact .inr ⟨_, _, _, rfl, rfl, rfl⟩) ?_ ?_
         · intro a w' he hr K hK
           have h1 := hr 28 (by simp [Oper.looksAt, Op.operands])
           have h2 := hr 33 (by simp [Oper.looksAt, Op.operands])
           refine wp_build 75 #[(0, .tmp 28), (1, .tmp 33)] rfl ?_ ?_
           · rw [(show ((#[(0, Operand.tmp 28), (1, Operand.tmp 33)] : Array (Nat × Operand)).map fun (i, x) => (i, a.eval x)).toList = [(0, .string ⟨b.toArray⟩), (1, .int .i64 h.root)] from by simp only [List.map_toArray, List.map_cons, List.map_nil]; rw [show a.eval (.tmp 28) = _ from h1, show a.eval (.tmp 33) = _ from h2]), entBuilt _ _]; rfl
           · rw [(show ((#[(0, Operand.tmp 28), (1, Operand.tmp 33)] : Array (Nat × Operand)).map fun (i, x) => (i, a.eval x)).toList = [(0, .string ⟨b.toArray⟩), (1, .int .i64 h.root)] from by simp only [List.map_toArray, List.map_cons, List.map_nil]; rw [show a.eval (.tmp 28) = _ from h1, show a.eval (.tmp 33) = _ from h2]), entBuilt _ _]
             exact hK _ (Ext.refl _)
         simp only [setL, List.set_cons_succ, List.set_cons_zero])
      | (refine wpPL_det (o := ⟨some 36, _, _, _, _, _⟩) (v := .agg #[.string ByteArray.empty, .int .i64 p]) (by kernel_rfl) (by first | exact .inl rfl | exact .inr ⟨_, _, _, rfl, rfl, rfl⟩) ?_ ?_
         · intro a w' he hr K hK
           have h1 := hr 35 (by simp [Oper.looksAt, Op.operands])
           refine wp_build 75 #[(1, .tmp 35)] rfl ?_ ?_
           · rw [(show ((#[(1, Operand.tmp 35)] : Array (Nat × Operand)).map fun (i, x) => (i, a.eval x)).toList = [(1, .int .i64 p)] from by simp only [List.map_toArray, List.map_cons, List.map_nil]; rw [show a.eval (.tmp 35) = _ from h1]), ent1Built _]; rfl
           · rw [(show ((#[(1, Operand.tmp 35)] : Array (Nat × Operand)).map fun (i, x) => (i, a.eval x)).toList = [(1, .int .i64 p)] from by simp only [List.map_toArray, List.map_cons, List.map_nil]; rw [show a.eval (.tmp 35) = _ from h1]), ent1Built _]
             exact hK _ (Ext.refl _)
         simp only [setL, List.set_cons_succ, List.set_cons_zero])
      | (refine wpPL_step (o := ⟨some 37, _, _, _, _, _⟩) (Fresh 2 2 (.cells #[.string ⟨b.toArray⟩, .int .i64 h.root, .string ByteArray.empty, .int .i64 p] 75)) (Fresh.stable _ _ _) (by first | exact .inr (AppF.strong _ _ _ _ (by decide)) | exact .inr (WrF.strong _ _ _ _ (by decide)) | exact .inr (RowsF.strong _ _ _ _ _ _ _ _ (by decide)) | exact .inr (Fresh.strong _ _ _ _ _ _ _ (by decide)) | exact .inr (IfcF.strong (Fresh.strong _ _ _ _ _ _ _ (by decide)) _) | exact .inl (by kernel_rfl)) (by kernel_rfl) (by first | exact .inl rfl | exact .inr ⟨_, _, _, rfl, rfl, rfl⟩) ?_ ?_
         · intro a w' he hr K hK
           simp [Reads, Oper.looksAt, Op.operands, Call.operands, factAt, Is] at hr
           go_simp
           exact hK _ _ (Ext.alloc _ _) (Fresh.new _ _ _ _)
         simp only [setL, List.set_cons_succ, List.set_cons_zero])
      | (refine wpPL_step (o := ⟨some 38, _, _, _, _, _⟩) (NvF 0 (rootN h b p)) (NvF.stable _ _) (.inr (NvF.strong _ _ _ _)) (by kernel_rfl) (by first | exact .inl rfl | exact .inr ⟨_, _, _, rfl, rfl, rfl⟩) ?_ ?_
         · intro a w' he hr K hK
           have h1 := hr 27 (by simp [Oper.looksAt, Op.operands])
           obtain ⟨b, h2, h3⟩ := hr 37 (by simp [Oper.looksAt, Op.operands])
           refine wp_build 53 #[(0, .tmp 27), (2, .tmp 37)] rfl ?_ ?_
           · rw [(show ((#[(0, Operand.tmp 27), (2, Operand.tmp 37)] : Array (Nat × Operand)).map fun (i, x) => (i, a.eval x)).toList = [(0, .int .i64 (h.height + 1)), (2, .slice (some ⟨b, 0, none⟩) 2 2)] from by simp only [List.map_toArray, List.map_cons, List.map_nil]; rw [show a.eval (.tmp 27) = _ from h1, show a.eval (.tmp 37) = _ from h2]), ndBuilt3 _ _ _ _]; rfl
           · rw [(show ((#[(0, Operand.tmp 27), (2, Operand.tmp 37)] : Array (Nat × Operand)).map fun (i, x) => (i, a.eval x)).toList = [(0, .int .i64 (h.height + 1)), (2, .slice (some ⟨b, 0, none⟩) 2 2)] from by simp only [List.map_toArray, List.map_cons, List.map_nil]; rw [show a.eval (.tmp 27) = _ from h1, show a.eval (.tmp 37) = _ from h2]), ndBuilt3 _ _ _ _]
             exact hK _ _ (Ext.refl _) ⟨some ⟨b, 0, none⟩, 2, rfl, own_of_blk h3 (Nat.zero_le _) rfl (by show 2 ≤ maxLen; decide)⟩
         simp only [setL, List.set_cons_succ, List.set_cons_zero])
      | (refine wpPL_pivot (o := ⟨none, _, _, _, _, _⟩) Any Any.stable (.inr Any.strong) (by kernel_rfl) (by first | exact .inl rfl | exact .inr ⟨_, _, _, rfl, rfl, rfl⟩) ?_ ?_
         · intro a w' he hr K hK
           obtain ⟨b, h1, h2, h3⟩ := hr 7 (by simp [Oper.looksAt, Op.operands])
           obtain ⟨q9, c9, hv, h9⟩ := hr 38 (by simp [Oper.looksAt, Op.operands])
           refine wp_store_row 53 (.tmp 7) (.tmp 38) rfl b _ h1 hv _ _ h2 ndSize rfl (by simp [Value.oneCell']) ?_
           exact hK _ _ ⟨b, _, h3, h2, Chg.setRow⟩ trivial (fun x hx _ y hy => by simp at hx; subst hx; simp at hy; subst hy; exact ⟨b, h1, q9, c9, Blk.setRow h2, own_tchg h9 (by decide) ⟨b, _, h3, h2, Chg.setRow⟩, h3⟩)
         simp only [setL, List.set_cons_succ, List.set_cons_zero])
      | (refine wpPL_move _ _ (by kernel_rfl) (by first | exact .inl rfl | exact .inr ⟨_, _, _, rfl, rfl, rfl⟩) (by first | exact .inl rfl | exact .inr rfl) rfl (by first | exact Is.stable _ | exact RowsF.stable _ _ _ _ _ | exact NoneF.stable _ _ | exact Fresh.stable _ _ _ | exact AppF.stable _ | exact WrF.stable _ | exact PtrF.stable _ _ | exact PlF.stable _ _) (by first | exact .inr (Is.strong _ _ _) | exact .inr (AppF.strong _ _ _ _ (by decide)) | exact .inr (WrF.strong _ _ _ _ (by decide)) | exact .inr (RowsF.strong _ _ _ _ _ _ _ _ (by decide)) | exact .inl (by kernel_rfl)) ?_
         simp only [setL, List.set_cons_succ, List.set_cons_zero, List.getD_cons_succ, List.getD_cons_zero])
      | (apply wpPL_det (by kernel_rfl) (by first | exact .inl rfl | exact .inr ⟨_, _, _, rfl, rfl, rfl⟩)
         · intro a w' he hr K hK
           simp [Reads, Oper.looksAt, Op.operands, Call.operands, factAt, Is] at hr
           have hx := he.cell
           go_simp
           try go_bits
           try (rw [if_neg (by omega)]; go_simp)
           first
             | exact hK _ (Ext.refl _)
         simp only [setL, List.set_cons_succ, List.set_cons_zero]))
    intro w2 he2
    simp only [killL, killIn, List.foldl_cons, List.foldl_nil, List.set_cons_succ, List.set_cons_zero]
    repeat (first | with_reducible refine rest_is _ _ _ _ ?_ | (with_reducible refine rest_fact _ _ _ _ ?_; intro _ _) | with_reducible refine rest_end _ _ ?_)
    simp only [List.reverse_cons, List.reverse_nil, List.nil_append, List.cons_append]
    rename_i x7 h7 x37 h37 x38 h38
    obtain ⟨nb, rfl, qn, cn, hn2, hon2, _⟩ := h7
    have HS2 := Lib.hid (HS1.out.ext he2)
    have HT2 := Lib.hid (HT1.out.trans (TWr.ofExt he2 (Nat.le_trans Hbw.out HT1.out.1.size)))
    have Hn2 := Lib.hid hn2
    have Hon2 := Lib.hid hon2
    have HFr := Lib.hid (fresh_any B wb { h with height := h.height + 1 } d L w2 HS2.out Hf.out)
    clear h37 h38 c4 c3 lb hn2 hon2 he2
    go_upto_region 6 with (go_at_call 42; refine HFr.out.mono ?_; rintro e w3 ⟨rfl, hs3, ht3⟩; obtain ⟨q3, c3, hb3, ho3, hB3⟩ := hs3; have f3 := Blk.free hb3 3; have k3 : w3.cell? ⟨wb, 3, none⟩ = some (.int .i64 h.root) := Blk.val hb3 3 _ rfl; have l3 := Blk.lt hb3; have Hb3 := Lib.hid hb3; have Ho3 := Lib.hid ho3; have HB3 := Lib.hid hB3; have HT3 := Lib.hid ht3; clear hb3 ho3 hB3 ht3)
    have hT : TWr B w2 (w3.setCell ⟨wb, 3, none⟩ (.int .i64 (h.fin + 1))) := HT3.out.trans (TWr.ofW (rty_chg Hb3.out HB3.out Chg.setCell))
    refine wp_name (fun w4 => WrS B wb { h with height := h.height + 1, fin := h.fin + 1, root := h.fin + 1 } d L w4 ∧ TWr B w w4 ∧ Blk w4 nb (.cells #[.int .i64 (h.height + 1), .int .i64 0, .slice qn 2 cn] 53) ∧ w4.ownsRow 0 75 2 (.slice qn 2 cn) 2 (entCells (rootN h b p).ents)) ⟨⟨q3, c3, Blk.setCell Hb3.out, own_chgT Ho3.out (by decide) Hb3.out Chg.setCell, HB3.out⟩, HT2.out.trans hT, hT.2 nb _ _ (by decide) (by decide) Hn2.out, TWr.own Hon2.out (by decide) (by decide) hT⟩ ?_
    clear hT f3 k3 l3 Hb3 Ho3 HB3 HT3 HFr HS2 HT2 Hn2 Hon2 HS1 HT1 HB1
    rintro w4 ⟨hs4, ht4, hn4, ho4⟩
    have HPu : Hid (∀ W, Ext w4 W → Calls Tryz.prog 43 #[.pointer (some ⟨wb, 0, none⟩), .int .i64 (h.fin + 1), .agg #[.int .i64 (h.height + 1), .int .i64 0, .slice qn 2 cn]] W fun e w' => e = .returned (.int .i64 (encNE d.interval (rootN h b p))) ∧ WrS B wb { h with height := h.height + 1, fin := h.fin + 1, root := h.fin + 1 } d (L ++ [(h.fin + 1, encNS d.interval (rootN h b p))]) w' ∧ TWr B W w') :=
      Lib.hid (fun W e => put_any B wb _ d L (h.fin + 1) (rootN h b p) qn cn W (hs4.ext e) (own_cellsND (own_ext ho4 e)) (by simp [rootN]) (by omega))
    have HT4 := Lib.hid ht4
    have hsz4 := Nat.le_trans Hbw.out ht4.1.size
    obtain ⟨q4, c4, hb4, _, _⟩ := hs4
    have k3 : w4.cell? ⟨wb, 3, none⟩ = some (.int .i64 (h.fin + 1)) := Blk.val hb4 3 _ rfl
    have l4 := Blk.lt hb4
    have n0 : w4.cell? ⟨nb, 0, none⟩ = some (.int .i64 (h.height + 1)) := Blk.val hn4 0 _ rfl
    have n1 : w4.cell? ⟨nb, 1, none⟩ = some (.int .i64 0) := Blk.val hn4 1 _ rfl
    have n2 : w4.cell? ⟨nb, 2, none⟩ = some (.slice qn 2 cn) := Blk.val hn4 2 _ rfl
    have ln4 := Blk.lt hn4
    clear hb4 ho4 ht4 hn4
    go_region_with (go_at_call 43; refine (HPu.out _ (by first | exact Ext.refl _ | exact Ext.drew _ | exact Ext.drewN _ _)).mono ?_; rintro e w5 ⟨rfl, hs5, ht5⟩)
    all_goals
      have HR := Lib.hid (And.intro hs5 (HT4.out.trans ((TWr.ofExt (Ext.drew _) hsz4).trans ht5)))
      clear hs5 ht5 n0 n1 n2 k3 l4 ln4
      go_wp2_with fail
      go_ret
      exact ⟨rfl, HR.out⟩
end Go.Proofs.YtolmoknjmdmpgaaGreat
/- The walks of package index's writer: sorted, twice (no page twice). -/
namespace Go.Proofs.YtolmoknjmdmpgaaGreat
open Go.RowKit Dsd
set_option maxRecDepth 100000 in
set_option maxHeartbeats 1000000 in
theorem sorted_any (B wb : Nat) (h : Hd) (d : DS) (L : List Wr) (w : World) (hs : WrS B wb h d L w) (h1 : 1 ≤ L.length) (h12 : L.length ≤ 12) (hk : ∀ x ∈ L, 0 ≤ x.1 ∧ x.1 ≤ 20000000) :
    Calls Tryz.prog 44 #[.pointer (some ⟨wb, 0, none⟩)] w fun e w' => ∃ L' q c, L'.Perm L ∧ ordTo L' L'.length ∧ e = .returned (.slice q L'.length c) ∧ w'.ownsRow B 65 2 (.slice q L'.length c) L'.length (wrC L') ∧ WrS B wb h d L' w' ∧ TWr B w w' := by
  obtain ⟨q, c, hb, ho, hB⟩ := hs
  obtain ⟨g, cur, rfl, hBg, hg, hnc, hcm, hsz, htk⟩ := own_parts ho (by omega)
  have HS := Lib.hid (SortFuncI_any g cur.size L.length c L w rfl h12 ⟨cur, hg, rfl, htk⟩ hk)
  have hne : wb ≠ g := ndBlk hb hg (by decide)
  have HF : Hid (∀ w', w.grownBy w' (some g) → (∃ L', L'.Perm L ∧ ordTo L' L'.length ∧ RowW w' g cur.size L') → ∃ L', L'.Perm L ∧ ordTo L' L'.length ∧ Blk w' wb (.cells (wtC h d (.slice (some ⟨g, 0, none⟩) L.length c)) 93) ∧ L'.length = L.length ∧ w'.ownsRow B 65 2 (.slice (some ⟨g, 0, none⟩) L'.length c) L'.length (wrC L') ∧ TWr B w w') := Lib.hid (fun w' hg2 ⟨L', hp, ho', cur', hb', hz', ht'⟩ => by
    have hl := hp.length_eq
    refine ⟨L', hp, ho', Blk.grown hb hg2 (by simp; exact fun e => hne e.symm), hl, ⟨by rw [wrC_len], .inr ⟨g, c, cur', rfl, hBg, hb', by omega, hcm, by omega, ht'⟩⟩, TWr.ofP (rty_grown hg hBg hg2)⟩)
  have c28 : w.cell? ⟨wb, 28, none⟩ = some (.slice (some ⟨g, 0, none⟩) L.length c) := Blk.val hb 28 _ rfl
  have lb := Blk.lt hb
  clear hb ho hg hnc hcm hsz htk hne
  go_enter Tryz.func44, Tryz.ntmps44
  go_upto_region 2 with (go_at_call 64; refine HS.out.mono ?_; rintro e w1 ⟨rfl, hg1, hl1⟩)
  obtain ⟨L', hp, hord, hb1, hl, ho1, ht1⟩ := HF.out _ hg1 hl1
  have c28' : w1.cell? ⟨wb, 28, none⟩ = some (.slice (some ⟨g, 0, none⟩) L.length c) := Blk.val hb1 28 _ rfl
  have lb1 := Blk.lt hb1
  have HR := Lib.hid (And.intro hp (And.intro hord (And.intro hb1 (And.intro hl (And.intro ho1 ht1)))))
  clear hp hord hb1 hl ho1 ht1 hg1 hl1 c28
  go_wp2
  go_ret
  obtain ⟨hp, hord, hb1, hl, ho1, ht1⟩ := HR.out
  refine ⟨L', some ⟨g, 0, none⟩, c, hp, hord, by rw [hl]; rfl, ho1, ⟨_, _, by rw [hl]; exact hb1, ho1, hB⟩, ht1⟩
theorem blk2 {w : World} {a b : Nat} (h : a = b) : a = b := h
set_option maxRecDepth 100000 in
theorem EqW_any (x y : Int) (s t : List UInt8) (w : World) :
    Calls Tryz.prog 73 #[.agg #[.int .i64 x, .string ⟨s.toArray⟩], .agg #[.int .i64 y, .string ⟨t.toArray⟩]] w fun e w' => e = .returned (.bool (x == y)) ∧ Ext w w' := by
  go_enter Tryz.func73, Tryz.ntmps73
  go_wp2
  go_ret
  exact ⟨rfl, (Ext.alloc _ _).trans (Ext.alloc _ _)⟩
set_option maxRecDepth 100000 in
set_option maxHeartbeats 1000000 in
theorem CompactW_any (g z n c : Nat) (L : List Wr) (w : World) (hr : RowW w g z L) (hn : L.length = n) (hl : n ≤ 1000) (hd : ∀ k, k + 1 < n → (wrAt L (k + 1)).1 ≠ (wrAt L k).1) :
    Calls Tryz.prog 71 #[.slice (some ⟨g, 0, none⟩) n c, .func (.func 73) #[] #[]] w fun e w' => e = .returned (.slice (some ⟨g, 0, none⟩) n c) ∧ Ext w w' := by
  have Hr := Lib.hid hr
  have Hn := Lib.hid hn
  have Hd := Lib.hid hd
  have hgl : g < w.heap.size := by obtain ⟨_, h, _⟩ := hr; exact Blk.lt h
  have Hgl := Lib.hid hgl
  clear hr hn hd hgl
  obtain ⟨wo, rfl⟩ : ∃ wo : World, wo = w := ⟨_, rfl⟩
  by_cases h2 : n < 2
  · have h2I : decide ((n : Int) < 2) = true := decide_eq_true (by omega)
    clear h2
    go_enter Tryz.func71, Tryz.ntmps71
    go_wp2
    go_ret
    exact ⟨rfl, Ext.refl _⟩
  · have h2I : decide ((n : Int) < 2) = false := decide_eq_false (by omega)
    have H2 := Lib.hid h2
    clear h2
    go_enter Tryz.func71, Tryz.ntmps71
    go_upto_region 4 with (fail)
    go_loopw [5] (fun i wr => ∃ k : Nat, k + 1 ≤ n ∧ i = .int .i64 ((k + 1 : Nat) : Int) ∧ Ext wo wr) (fun i _ => n - (intOf i).toNat)
    case atStart => exact ⟨0, by have := H2.out; omega, rfl, Ext.refl _⟩
    case round =>
      obtain ⟨k, hk, rfl, hx⟩ := hrel
      by_cases hlt : k + 1 < n
      · obtain ⟨a0, a1, _⟩ := (Hr.out.ext hx).at (k + 1) (by have := Hn.out; omega)
        obtain ⟨b0, b1, _⟩ := (Hr.out.ext hx).at k (by have := Hn.out; omega)
        have hdk := Hd.out k hlt
        have hglw : g < wr.heap.size := Nat.lt_of_lt_of_le Hgl.out hx.size
        generalize wrAt L (k + 1) = y at *
        generalize wrAt L k = x at *
        obtain ⟨ky, sy⟩ := y
        obtain ⟨kx, sx⟩ := x
        simp only at a0 a1 b0 b1 hdk
        have hdb : (ky == kx) = false := by simpa using hdk
        have Hx := Lib.hid hx
        obtain ⟨i, hi⟩ : ∃ i, i = k + 1 := ⟨_, rfl⟩
        rw [← hi] at a0 a1 hlt ⊢
        have hji : (i : Int) - 1 = (k : Int) := by omega
        have hiI : (i : Int) < n := by omega
        have hjI : (k : Int) < n := by omega
        have Hi := Lib.hid hi
        clear hi hx hdk
        go_upto_region 6 with (fail)
        refine wp_region_mk 200 (Ext.refl wr) (by kernel_rfl) (by kernel_rfl) (by kernel_rfl) ?_
        simp only [List.take_succ_cons, List.take_zero, List.take_nil, List.drop_succ_cons, List.drop_zero, List.drop_nil, List.map_cons, List.map_nil]
        repeat (first
          | (refine wpML_det (o := ⟨some 28, _, _, _, _, _⟩) (v := .bool (ky == kx)) rfl ?_ ?_
             · intro a w' he hr K hK
               simp [Reads, Oper.looksAt, Op.operands, Call.operands, factAt, Is] at hr
               go_simp
               refine (EqW_any ky kx sy sx _).mono ?_
               rintro e w'' ⟨rfl, he''⟩
               exact hK _ he''
             simp only [setL, List.set_cons_succ, List.set_cons_zero])
          | (refine wpML_move _ _ rfl (by first | exact .inl rfl | exact .inr rfl) rfl (by first | exact Is.stable _ | exact AppF.stable _ | exact WrF.stable _ | exact PtrF.stable _ _ | exact IfcF.stable (Fresh.stable _ _ _) _ | exact PairF.stable (RowF.stable _ _ _ _) _ | exact RowF.stable _ _ _ _ | exact Fresh.stable _ _ _) ?_
             simp only [setL, List.set_cons_succ, List.set_cons_zero, List.getD_cons_succ, List.getD_cons_zero])
          | (refine wpML_moveC _ rfl (by first | exact .inl rfl | exact .inr rfl) ?_
             simp only [setL, List.set_cons_succ, List.set_cons_zero])
          | (apply wpML_det rfl
             · intro a w' he hr K hK
               simp [Reads, Oper.looksAt, Op.operands, Call.operands, factAt, Is] at hr
               have hx := he.cell
               go_simp
               try go_bits
               try (rw [if_neg (by omega)]; go_simp)
               first
                 | exact hK _ (Ext.refl _)
             simp only [setL, List.set_cons_succ, List.set_cons_zero])
          | (apply wpML_det rfl
             · intro a w' he hr K hK
               simp [Reads, Oper.looksAt, Op.operands, Call.operands, factAt, Fresh] at hr
               obtain ⟨b, hr1, hr2⟩ := hr
               go_simp
               exact hK _ (Ext.refl _)
             simp only [setL, List.set_cons_succ, List.set_cons_zero]))
        intro w2 he2
        repeat (first | with_reducible refine rest_is _ _ _ _ ?_ | (with_reducible refine rest_fact _ _ _ _ ?_; intro _ _) | with_reducible refine rest_end _ _ ?_)
        simp only [List.reverse_cons, List.reverse_nil, List.nil_append, List.cons_append]
        have HX := Lib.hid (Hx.out.trans he2)
        clear he2
        go_wp2
        go_roundw
        case rel => exact ⟨k + 1, by have := Hi.out; omega, by have := Hi.out; subst this; go_num, HX.out⟩
        case measure => simp [intOf]; have := Hi.out; omega
      · have hltI : decide (((k + 1 : Nat) : Int) < n) = false := decide_eq_false (by omega)
        go_wp2
        go_ret
        exact ⟨rfl, hx⟩
set_option maxRecDepth 100000 in
theorem CloneW_any (g z n c : Nat) (L : List Wr) (w : World) (hr : RowW w g z L) (hn : L.length = n) (h1 : 1 ≤ n) (hl : n ≤ 1000) :
    Calls Tryz.prog 72 #[.slice (some ⟨g, 0, none⟩) n c] w fun e w' => ∃ q k, e = .returned (.slice q n k) ∧ w'.ownsRow w.heap.size 65 2 (.slice q n k) n (wrC L) ∧ Ext w w' := by
  have hnil : ∀ W, (binOp BinOp.eql 57 (.slice (some ⟨g, 0, none⟩) n c) (.slice none 0 0)).run Tryz.prog W = .ok (.bool false) W := by intro W; kernel_rfl
  have hc : Cells w (some ⟨g, 0, none⟩) (wrC L) := by obtain ⟨cur, hb, _, ht⟩ := hr; exact cells_take hb ht
  have hm := World.ownsRow_made (base := w.heap.size) (e := 65) (size := 2) w #[] 0 (Nat.le_refl _) (by simp) rfl
  have h1s : ∀ u ∈ wrC L, u.oneCell' = true := by
    intro u hu
    unfold wrC at hu
    simp only [List.mem_flatMap] at hu
    obtain ⟨x, _, hx⟩ := hu
    simp at hx
    rcases hx with rfl | rfl <;> rfl
  have HC := Lib.hid hc
  have HM := Lib.hid hm
  have Hn := Lib.hid hn
  have hwl : Hid ((wrC L).length = n * 2) := Lib.hid (by rw [wrC_len, hn])
  clear hr hc hm hn
  go_enter Tryz.func72, Tryz.ntmps72
  go_wp2_with (first
    | (at_builtin; refine wpList_appk (o := ⟨some 7, _, _, _, _, _⟩) rfl (.tmp 5) (.tmp 6) 57 65 rfl w.heap.size (.agg #[.int .i64 0, .string ByteArray.empty]) 2 24 Tryz.underlying57 infoWr2 rfl (by decide) _ 0 [] rfl HM.out (some ⟨g, 0, none⟩) n c (wrC L) rfl rfl hwl.out (HC.out.ext (Ext.alloc _ _)) h1s (by omega) (by decide) (by simp) ?_; intro v8 w8 ho8 hg8)
    | simp only [hnil])
  rw [Nat.zero_add, List.nil_append] at ho8
  obtain ⟨q8, c8, rfl⟩ := own_slice ho8
  go_ret
  exact ⟨q8, c8, rfl, ho8, Ext.trans' (Ext.alloc _ _) (Below.of_grown hg8 (World.ownsRow_made (base := w.heap.size) (e := 65) (size := 2) w #[] 0 (Nat.le_refl _) (by simp) rfl) (Nat.le_refl _) (by simp))⟩
end Go.Proofs.YtolmoknjmdmpgaaGreat
