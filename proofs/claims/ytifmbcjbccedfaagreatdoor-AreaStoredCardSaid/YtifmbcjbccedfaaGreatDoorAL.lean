/- A part of the proof. -/
import Derived.Test.YtifmbcjbccedfaaGreatDoorAF

set_option linter.unusedSimpArgs false
set_option linter.unusedVariables false
namespace Dsd
open Go
def OwnF (E : TypeId) (B k n : Nat) (xs : List Value) : Fact := fun x w => ∃ q c, x = .slice q n c ∧ w.ownsRow B E k (.slice q n c) n xs
theorem OwnF.stable (E : TypeId) (B k n : Nat) (xs : List Value) : (OwnF E B k n xs).stable := fun _ _ _ he ⟨q, c, h1, h2⟩ => ⟨q, c, h1, Go.Proofs.YtifmbcjbccedfaaGreatDoor.own_ext h2 he⟩
theorem bl_ge (a b : List UInt8) : (Go.Op.bytesLess a b || a == b) = !bl b a := by
 rcases bl_total a b with h | h | h
 · have h2 : bl b a = false := bl_asymm h
   have h1 : Go.Op.bytesLess a b = true := h
   rw [h1, h2]; rfl
 · subst h
   have h2 : bl a a = false := bl_irrefl a
   rw [h2]; simp
 · have h2 : Go.Op.bytesLess a b = false := bl_asymm h
   have h1 : bl b a = true := h
   have h3 := bl_ne h
   rw [h1, h2]
   cases hab : a == b
   · rfl
   · rw [beq_iff_eq] at hab; exact absurd hab.symm h3
end Dsd
namespace Go.Proofs.YtifmbcjbccedfaaGreatDoor
open Go.RowKit Dsd
theorem ndDesc : Tryz.prog.underlying 26 = some (.struct (Tryz.prog.fieldsOf 26)) := by kernel_rfl
theorem ndSize : (Tryz.prog.info? 26).map (·.size) = some 3 := by kernel_rfl
theorem ins_ne {w : World} {base : Nat} {E : TypeId} {q : Option Addr} {c xb : Nat} {L : List Ent} {bel : List UInt8} {op : Int} (hown : w.ownsRow base E 2 (.slice q L.length c) L.length (entCells L)) (hb : Blk w xb (.cells #[.string ⟨bel.toArray⟩, .int .i64 op] E)) (hne : bel ≠ []) (hlast : L.length = 1 → (entAt L 0).1 = []) (h1 : 0 < L.length) : (Value.slice q L.length c).ownBlock ≠ some xb := by
 obtain ⟨g, cur, rfl, hg0, hg, hnc, hc, hcur, htake⟩ := own_parts hown h1
 intro he
 simp only [Value.ownBlock, Option.some.injEq] at he
 subst he
 have e : (Obj.cells cur E) = .cells #[.string ⟨bel.toArray⟩, .int .i64 op] E := by
   have := hg.symm.trans hb
   simpa using this
 simp only [Obj.cells.injEq, and_true] at e
 subst e
 simp at hcur
 have hl : L.length = 1 := by omega
 cases L with
 | nil => simp at hl
 | cons x L =>
   have h0 := hlast hl
   have hn : L = [] := by simpa using hl
   subst hn
   have h0 : x.1 = [] := h0
   simp [entCells] at htake
   exact hne (by rw [← h0]; exact htake.1)
def InsOut (w : World) (R : Nd × Int) (e : Ending) (w' : World) : Prop := Ext w w' ∧ ∃ q' c', e = .returned (.tuple #[ndV R.1 q' c', .int .i64 R.2]) ∧ Nents w' q' R.1.ents ∧ R.1.ents.length ≤ c' ∧ (R.2 = 0 → ∃ g, w.heap.size ≤ g ∧ q' = some ⟨g, 0, none⟩ ∧ ∃ cur, Blk w' g (.cells cur 63))
set_option maxRecDepth 100000 in
set_option maxHeartbeats 2000000 in
theorem InsertN_any (q : Option Addr) (c : Nat) (n : Nd) (i : Int) (bel : List UInt8) (page : Int) (w : World) (h : Nents w q n.ents) (hl : n.ents.length ≤ 1000000) (hbl : bel.length ≤ 1000000) (hcap : n.ents.length ≤ c) :
   Calls Tryz.prog 63 #[ndV n q c, .int .i64 i, .string ⟨bel.toArray⟩, .int .i64 page] w (InsOut w (insertNd n i bel page)) := by
 have Hn := Lib.hid h
 have HP := Lib.hid (fun W (e : Ext w W) => plainN_any q c n W (h.ext e) hl)
 have HG := Lib.hid (fun W => isPage_any page W)
 have HR : Hid (insertNd n i bel page = if nodeB n = false ∨ pageB page = false ∨ i < 0 ∨ (n.ents.length : Int) ≤ i then (Nd.zero, 1)
     else if bel = [] ∨ 32 < bel.length ∨ (0 < i ∧ bl (entAt n.ents (i.toNat - 1)).1 bel = false) ∨ ((entAt n.ents i.toNat).1 ≠ [] ∧ bl bel (entAt n.ents i.toNat).1 = false) then (Nd.zero, 2)
     else if n.ents.length = 120 then (Nd.zero, 8) else ({ n with ents := splE n.ents i.toNat bel page }, 0)) := Lib.hid rfl
 have HZ : Hid (∀ w w' : World, ∀ c : Int, Ext w w' → c ≠ 0 → InsOut w (Nd.zero, c) (.returned (.tuple #[.agg #[.int .i64 0, .int .i64 0, .slice none 0 0], .int .i64 c])) w') := Lib.hid (fun w w' c he hc => ⟨he, none, 0, rfl, .inl rfl, Nat.le_refl _, fun h => absurd h hc⟩)
 generalize insertNd n i bel page = R at *
 unfold ndV at HP ⊢
 have hb0 : Blk (w.alloc (.cells #[.int .i64 n.level, .int .i64 n.next, .slice q n.ents.length c] 26)) w.heap.size (.cells #[.int .i64 n.level, .int .i64 n.next, .slice q n.ents.length c] 26) := Blk.new w _
 go_enter Tryz.func63, Tryz.ntmps63
 go_upto_region 1 with (fail)
 refine wp_name (fun w0 => Ext w w0 ∧ Blk w0 w.heap.size (.cells #[.int .i64 n.level, .int .i64 n.next, .slice q n.ents.length c] 26) ∧ Blk w0 (w.heap.size + 1) (.cells #[.int .i64 0, .int .i64 0, .slice none 0 0] 26)) ⟨(Ext.alloc _ _).trans (Ext.alloc _ _), Blk.alloc hb0 _, by simpa using Blk.new (w.alloc (.cells #[.int .i64 n.level, .int .i64 n.next, .slice q n.ents.length c] 26)) (.cells #[.int .i64 0, .int .i64 0, .slice none 0 0] 26)⟩ ?_
 clear hb0 h
 rintro w0 ⟨he0, hb0, hb1⟩
 have HP0 := Lib.hid (HP.out w0 he0)
 have HE0 := Lib.hid he0
 have HB0 := Lib.hid hb0
 have HB1 := Lib.hid hb1
 have c0 := Blk.val hb0 0 _ rfl
 have c1 := Blk.val hb0 1 _ rfl
 have c2 := Blk.val hb0 2 _ rfl
 have hlt0 := Blk.lt hb0
 clear HP he0 hb0 hb1
 by_cases h1 : nodeB n = false ∨ pageB page = false ∨ i < 0 ∨ (n.ents.length : Int) ≤ i
 · rw [if_pos h1] at HR
   have hM : w.heap.size ≤ w.heap.size + 1 := by omega
   have HH1 := Lib.hid h1
   have HM : ∀ wx, Blk wx (w.heap.size + 1) (.cells #[.int .i64 0, .int .i64 0, .slice none 0 0] 26) → True := fun _ _ => trivial
   have hle : (n.ents.length : Int) ≤ 1000000 := by omega
   cases hnb : nodeB n
   · rw [hnb] at HP0
     clear h1
     go_upto_region 2 with (go_at_call 90; refine HP0.out.mono ?_; rintro e w1 ⟨rfl, he1⟩)
     have hb2 := he1.blk _ _ HB1.out
     have d0 := Blk.val hb2 0 _ rfl
     have d1 := Blk.val hb2 1 _ rfl
     have d2 := Blk.val hb2 2 _ rfl
     have f0 := Blk.free hb2 0
     have f1 := Blk.free hb2 1
     have f2 := Blk.free hb2 2
     have hlt2 := Blk.lt hb2
     go_wp2_with fail
     exact bodyPost_ret (results_row1 Tryz.results63 _ _ _ _ _ _ rfl (Blk.setCell (Blk.setCell (Blk.setCell hb2))) ndDesc rfl ndSize) rfl (by rw [HR.out]; exact HZ.out _ _ _ (((Chg.setCell (g := w.heap.size + 1)).trans Chg.setCell).trans Chg.setCell |>.ext (HE0.out.trans he1) (by omega)) (by decide))
   · rw [hnb] at HP0
     cases hpb : pageB page
     · rw [hpb] at HG
       clear h1 hpb
       go_upto_region 2 with (first | (go_at_call 90; refine HP0.out.mono ?_; rintro e w1 ⟨rfl, he1⟩) | (go_at_call 116; refine (HG.out _).mono ?_; rintro e w2 ⟨rfl, rfl⟩))
       have hb2 := he1.blk _ _ HB1.out
       have d0 := Blk.val hb2 0 _ rfl
       have d1 := Blk.val hb2 1 _ rfl
       have d2 := Blk.val hb2 2 _ rfl
       have f0 := Blk.free hb2 0
       have f1 := Blk.free hb2 1
       have f2 := Blk.free hb2 2
       have hlt2 := Blk.lt hb2
       go_wp2_with fail
       exact bodyPost_ret (results_row1 Tryz.results63 _ _ _ _ _ _ rfl (Blk.setCell (Blk.setCell (Blk.setCell hb2))) ndDesc rfl ndSize) rfl (by rw [HR.out]; exact HZ.out _ _ _ (((Chg.setCell (g := w.heap.size + 1)).trans Chg.setCell).trans Chg.setCell |>.ext (HE0.out.trans he1) (by omega)) (by decide))
     · rw [hpb] at HG
       by_cases hi : i < 0
       · clear h1 hpb
         go_upto_region 2 with (first | (go_at_call 90; refine HP0.out.mono ?_; rintro e w1 ⟨rfl, he1⟩) | (go_at_call 116; refine (HG.out _).mono ?_; rintro e w2 ⟨rfl, rfl⟩))
         have hb2 := he1.blk _ _ HB1.out
         have d0 := Blk.val hb2 0 _ rfl
         have d1 := Blk.val hb2 1 _ rfl
         have d2 := Blk.val hb2 2 _ rfl
         have f0 := Blk.free hb2 0
         have f1 := Blk.free hb2 1
         have f2 := Blk.free hb2 2
         have hlt2 := Blk.lt hb2
         go_wp2_with fail
         exact bodyPost_ret (results_row1 Tryz.results63 _ _ _ _ _ _ rfl (Blk.setCell (Blk.setCell (Blk.setCell hb2))) ndDesc rfl ndSize) rfl (by rw [HR.out]; exact HZ.out _ _ _ (((Chg.setCell (g := w.heap.size + 1)).trans Chg.setCell).trans Chg.setCell |>.ext (HE0.out.trans he1) (by omega)) (by decide))
       · have hi2 : (n.ents.length : Int) ≤ i := by
           rcases h1 with h | h | h | h
           · rw [hnb] at h; cases h
           · rw [hpb] at h; cases h
           · exact absurd h hi
           · exact h
         have hiI : decide (i < 0) = false := decide_eq_false hi
         clear h1 hpb
         go_upto_region 2 with (first | (go_at_call 90; refine HP0.out.mono ?_; rintro e w1 ⟨rfl, he1⟩; have c2' := Blk.val (he1.blk _ _ HB0.out) 2 _ rfl; have hl' := Blk.lt (he1.blk _ _ HB0.out)) | (go_at_call 116; refine (HG.out _).mono ?_; rintro e w2 ⟨rfl, rfl⟩))
         have hb2 := he1.blk _ _ HB1.out
         have d0 := Blk.val hb2 0 _ rfl
         have d1 := Blk.val hb2 1 _ rfl
         have d2 := Blk.val hb2 2 _ rfl
         have f0 := Blk.free hb2 0
         have f1 := Blk.free hb2 1
         have f2 := Blk.free hb2 2
         have hlt2 := Blk.lt hb2
         go_wp2_with fail
         exact bodyPost_ret (results_row1 Tryz.results63 _ _ _ _ _ _ rfl (Blk.setCell (Blk.setCell (Blk.setCell hb2))) ndDesc rfl ndSize) rfl (by rw [HR.out]; exact HZ.out _ _ _ (((Chg.setCell (g := w.heap.size + 1)).trans Chg.setCell).trans Chg.setCell |>.ext (HE0.out.trans he1) (by omega)) (by decide))
 · rw [if_neg h1] at HR
   have g1 : nodeB n = true := by cases hb : nodeB n; exact absurd (.inl hb) h1; rfl
   have g2 : pageB page = true := by cases hb : pageB page; exact absurd (.inr (.inl hb)) h1; rfl
   have g3 : 0 ≤ i := by omega
   have g4 : i < n.ents.length := by omega
   clear h1
   obtain ⟨I, rfl⟩ := Int.eq_ofNat_of_zero_le g3
   have hI : I < n.ents.length := by omega
   have Hg1 := Lib.hid g1
   rw [g1] at HP0
   rw [g2] at HG
   rw [Int.toNat_natCast] at HR
   clear g1 g2 g3
   have hi0 : decide ((I : Int) < 0) = false := decide_eq_false (by omega)
   obtain ⟨b, off, rfl, hgb, hcc⟩ := (Hn.out.ext HE0.out).at I hI
   have Hcc := Lib.hid hcc
   obtain ⟨hca, hcb⟩ := hcc I hI
   have hlen : n.ents.length ≤ 120 := (nodeB_ents Hg1.out).2.1
   have Hsm := Lib.hid (entAt_small (nodeB_ents Hg1.out).2.2)
   clear hcc
   go_upto_region 4 with (first | (go_at_call 90; refine HP0.out.mono ?_; rintro e w1 ⟨rfl, he1⟩; have c2' := Blk.val (he1.blk _ _ HB0.out) 2 _ rfl; have hl' := Blk.lt (he1.blk _ _ HB0.out); have hx := he1.cell; have hgb' := he1.size) | (go_at_call 116; refine (HG.out _).mono ?_; rintro e w2 ⟨rfl, rfl⟩))
   have Hee := Lib.hid (HE0.out.trans he1)
   have hbn := he1.blk _ _ HB0.out
   have hbz := he1.blk _ _ HB1.out
   refine wp_name (fun w3 => Ext w2 w3 ∧ Blk w3 w2.heap.size (.cells #[.string ⟨(entAt n.ents I).1.toArray⟩, .int .i64 (entAt n.ents I).2] 63))
     ⟨Ext.alloc _ _, Blk.new _ _⟩ ?_
   rintro w3 ⟨he3, hbo⟩
   have hbn3 := he3.blk _ _ hbn
   have hbz3 := he3.blk _ _ hbz
   have HX := Lib.hid (Hee.out.trans he3)
   have e0 := Blk.val hbn3 2 _ rfl
   have e1 := Blk.val hbo 0 _ rfl
   have e2 := Blk.val hbo 1 _ rfl
   have hlo := Blk.lt hbo
   have hln := Blk.lt hbn3
   have Hbn := Lib.hid hbn3
   have Hbo := Lib.hid hbo
   have Hbz := Lib.hid hbz3
   have Hcc3 := Lib.hid (fun j hj => ((Hn.out.ext HX.out).at j hj))
   clear hbn hbz hbn3 hbz3 hbo he3 he1 HP0 HG HB0 HB1 HE0 Hee c0 c1 c2 c2' hl' hx hgb' hlt0 hgb hca hcb Hcc
   generalize w2.heap.size = X at *
   have hXM : w.heap.size ≤ w.heap.size + 1 := by omega
   by_cases a1 : bel = []
   · subst a1
     rw [if_pos (.inl rfl)] at HR
     go_upto_region 7 with (fail)
     have hb2 := Hbz.out
     have d0 := Blk.val hb2 0 _ rfl
     have d1 := Blk.val hb2 1 _ rfl
     have d2 := Blk.val hb2 2 _ rfl
     have f0 := Blk.free hb2 0
     have f1 := Blk.free hb2 1
     have f2 := Blk.free hb2 2
     have hlt2 := Blk.lt hb2
     go_wp2_with fail
     exact bodyPost_ret (results_row1 Tryz.results63 _ _ _ _ _ _ rfl (Blk.setCell (Blk.setCell (Blk.setCell hb2))) ndDesc rfl ndSize) rfl (by rw [HR.out]; exact HZ.out _ _ _ (((Chg.setCell (g := w.heap.size + 1)).trans Chg.setCell).trans Chg.setCell |>.ext HX.out (by omega)) (by decide))
   · have n1 : (bel == []) = false := by simpa using a1
     by_cases a2 : 32 < bel.length
     · rw [if_pos (.inr (.inl a2))] at HR
       have i2 : decide (32 < (bel.length : Int)) = true := decide_eq_true (by omega)
       go_upto_region 7 with (fail)
       have hb2 := Hbz.out
       have d0 := Blk.val hb2 0 _ rfl
       have d1 := Blk.val hb2 1 _ rfl
       have d2 := Blk.val hb2 2 _ rfl
       have f0 := Blk.free hb2 0
       have f1 := Blk.free hb2 1
       have f2 := Blk.free hb2 2
       have hlt2 := Blk.lt hb2
       go_wp2_with fail
       exact bodyPost_ret (results_row1 Tryz.results63 _ _ _ _ _ _ rfl (Blk.setCell (Blk.setCell (Blk.setCell hb2))) ndDesc rfl ndSize) rfl (by rw [HR.out]; exact HZ.out _ _ _ (((Chg.setCell (g := w.heap.size + 1)).trans Chg.setCell).trans Chg.setCell |>.ext HX.out (by omega)) (by decide))
     · have i2 : decide (32 < (bel.length : Int)) = false := decide_eq_false (by omega)
       by_cases a3 : (0 : Int) < I ∧ bl (entAt n.ents (I - 1)).1 bel = false
       · rw [if_pos (.inr (.inr (.inl a3)))] at HR
         obtain ⟨J, rfl⟩ : ∃ J, I = J + 1 := ⟨I - 1, by omega⟩
         obtain ⟨b', off', hq, _, hc⟩ := Hcc3.out J (by omega)
         simp only [Option.some.injEq, Addr.mk.injEq] at hq
         obtain ⟨rfl, rfl, _⟩ := hq
         obtain ⟨hcj, _⟩ := hc J (by omega)
         have i3 : ((J + 1 : Nat) : Int) - 1 = (J : Int) := by omega
         have i4 : (0 : Int) < ((J + 1 : Nat) : Int) := by omega
         have i5 : (J : Int) < (n.ents.length : Int) := by omega
         have a4 := a3.2
         rw [Nat.add_sub_cancel] at a4
         have i6 : (Go.Op.bytesLess bel (entAt n.ents J).1 || bel == (entAt n.ents J).1) = true := by rw [bl_ge, a4]; rfl
         clear hc
         go_upto_region 7 with (fail)
         have hb2 := Hbz.out
         have d0 := Blk.val hb2 0 _ rfl
         have d1 := Blk.val hb2 1 _ rfl
         have d2 := Blk.val hb2 2 _ rfl
         have f0 := Blk.free hb2 0
         have f1 := Blk.free hb2 1
         have f2 := Blk.free hb2 2
         have hlt2 := Blk.lt hb2
         go_wp2_with fail
         exact bodyPost_ret (results_row1 Tryz.results63 _ _ _ _ _ _ rfl (Blk.setCell (Blk.setCell (Blk.setCell hb2))) ndDesc rfl ndSize) rfl (by rw [HR.out]; exact HZ.out _ _ _ (((Chg.setCell (g := w.heap.size + 1)).trans Chg.setCell).trans Chg.setCell |>.ext HX.out (by omega)) (by decide))
       · have a3' : 0 < I → bl (entAt n.ents (I - 1)).1 bel = true := fun h => by
           cases hb : bl (entAt n.ents (I - 1)).1 bel
           · exact absurd ⟨by omega, hb⟩ a3
           · rfl
         have hne2 : ¬ (bel = [] ∨ 32 < bel.length ∨ ((0 : Int) < I ∧ bl (entAt n.ents (I - 1)).1 bel = false) ∨ ((entAt n.ents I).1 ≠ [] ∧ bl bel (entAt n.ents I).1 = false)) ∨ ((entAt n.ents I).1 ≠ [] ∧ bl bel (entAt n.ents I).1 = false) := by
           by_cases a5 : (entAt n.ents I).1 ≠ [] ∧ bl bel (entAt n.ents I).1 = false
           · exact .inr a5
           · exact .inl (fun h => by rcases h with h | h | h | h; exact a1 h; exact a2 h; exact a3 h; exact a5 h)
         have HCl : Hid (∀ W, Ext w3 W → Calls Tryz.prog 105 #[.slice (some ⟨b, off, none⟩) n.ents.length c] W fun e W' => ∃ v, e = .returned v ∧ Ext W W' ∧ OwnF 63 w3.heap.size 2 n.ents.length (entCells n.ents) v W') := Lib.hid (fun W he => (CloneE_any (some ⟨b, off, none⟩) c n.ents.length (entCells n.ents) W (Hn.out.ext (HX.out.trans he)) (entCells_len _) (entCells_one _) hl (by simp)).mono (by
           rintro e w' ⟨he', v, rfl, ho⟩
           obtain ⟨q', c', rfl⟩ := own_slice ho
           exact ⟨_, rfl, he', q', c', rfl, ho.mono he.size⟩))
         by_cases I0 : I = 0
         · subst I0
           go_upto_region 6 with (fail)
           by_cases a5 : (entAt n.ents 0).1 ≠ [] ∧ bl bel (entAt n.ents 0).1 = false
           · rw [if_pos (.inr (.inr (.inr a5)))] at HR
             have n5 : ¬ (entAt n.ents 0).1 = [] := a5.1
             have n5' : (entAt n.ents 0).1.isEmpty = false := by simpa using a5.1
             have n6 : Go.Op.bytesLess bel (entAt n.ents 0).1 = false := a5.2
             go_upto_region 7 with (fail)
             have hb2 := Hbz.out
             have d0 := Blk.val hb2 0 _ rfl
             have d1 := Blk.val hb2 1 _ rfl
             have d2 := Blk.val hb2 2 _ rfl
             have f0 := Blk.free hb2 0
             have f1 := Blk.free hb2 1
             have f2 := Blk.free hb2 2
             have hlt2 := Blk.lt hb2
             go_wp2_with fail
             exact bodyPost_ret (results_row1 Tryz.results63 _ _ _ _ _ _ rfl (Blk.setCell (Blk.setCell (Blk.setCell hb2))) ndDesc rfl ndSize) rfl (by rw [HR.out]; exact HZ.out _ _ _ (((Chg.setCell (g := w.heap.size + 1)).trans Chg.setCell).trans Chg.setCell |>.ext HX.out (by omega)) (by decide))
           · rw [if_neg (hne2.resolve_right a5)] at HR
             have n7 : (entAt n.ents 0).1 = [] ∨ (¬ (entAt n.ents 0).1 = [] ∧ Go.Op.bytesLess bel (entAt n.ents 0).1 = true) := by
               by_cases h : (entAt n.ents 0).1 = []
               · exact .inl h
               · refine .inr ⟨h, ?_⟩
                 cases hb : bl bel (entAt n.ents 0).1
                 · exact absurd ⟨h, hb⟩ a5
                 · exact hb
             clear hne2 a5
             by_cases a6 : n.ents.length = 120
             · rw [if_pos a6] at HR
               have i7 : ((n.ents.length : Int) == 120) = true := by simp; omega
               clear a6
               rcases n7 with n7 | ⟨n7, n8⟩
               · skip
                 go_upto_region 9 with (fail)
                 have hb2 := Hbz.out
                 have d0 := Blk.val hb2 0 _ rfl
                 have d1 := Blk.val hb2 1 _ rfl
                 have d2 := Blk.val hb2 2 _ rfl
                 have f0 := Blk.free hb2 0
                 have f1 := Blk.free hb2 1
                 have f2 := Blk.free hb2 2
                 have hlt2 := Blk.lt hb2
                 go_wp2_with fail
                 exact bodyPost_ret (results_row1 Tryz.results63 _ _ _ _ _ _ rfl (Blk.setCell (Blk.setCell (Blk.setCell hb2))) ndDesc rfl ndSize) rfl (by rw [HR.out]; exact HZ.out _ _ _ (((Chg.setCell (g := w.heap.size + 1)).trans Chg.setCell).trans Chg.setCell |>.ext HX.out (by omega)) (by decide))
               · skip
                 go_upto_region 9 with (fail)
                 have hb2 := Hbz.out
                 have d0 := Blk.val hb2 0 _ rfl
                 have d1 := Blk.val hb2 1 _ rfl
                 have d2 := Blk.val hb2 2 _ rfl
                 have f0 := Blk.free hb2 0
                 have f1 := Blk.free hb2 1
                 have f2 := Blk.free hb2 2
                 have hlt2 := Blk.lt hb2
                 go_wp2_with fail
                 exact bodyPost_ret (results_row1 Tryz.results63 _ _ _ _ _ _ rfl (Blk.setCell (Blk.setCell (Blk.setCell hb2))) ndDesc rfl ndSize) rfl (by rw [HR.out]; exact HZ.out _ _ _ (((Chg.setCell (g := w.heap.size + 1)).trans Chg.setCell).trans Chg.setCell |>.ext HX.out (by omega)) (by decide))
             · rw [if_neg a6] at HR
               have i7 : ((n.ents.length : Int) == 120) = false := by simp; omega
               have Ha6 := Lib.hid a6
               clear a6
               rcases n7 with n7 | ⟨n7, n8⟩
               · skip
                 go_upto_region 10 with (fail)
                 refine wp_region_mk 9 (Ext.refl w3) (by kernel_rfl) (by kernel_rfl) (by kernel_rfl) ?_
                 simp only [List.take_succ_cons, List.take_zero, List.take_nil, List.drop_succ_cons, List.drop_zero, List.drop_nil, List.map_cons, List.map_nil]
                 repeat (first
                   | (refine wpML_move _ _ rfl (by first | exact .inl rfl | exact .inr rfl) rfl (by first | exact Is.stable _ | exact AppF.stable _ | exact WrF.stable _ | exact PtrF.stable _ _ | exact IfcF.stable (Fresh.stable _ _ _) _ | exact PairF.stable (RowF.stable _ _ _ _) _ | exact RowF.stable _ _ _ _ | exact Fresh.stable _ _ _) ?_
                      simp only [setL, List.set_cons_succ, List.set_cons_zero, List.getD_cons_succ, List.getD_cons_zero])
                   | (refine wpML_moveC _ rfl (by first | exact .inl rfl | exact .inr rfl) ?_
                      simp only [setL, List.set_cons_succ, List.set_cons_zero])
                   | (apply wpML_det rfl
                      · intro a w' he hr K hK
                        simp [Reads, Oper.looksAt, Op.operands, Call.operands, factAt, Is] at hr
                        have hx := he.cell
                        go_simp
                        try go_bits
                        try (rw [if_neg (by omega)]; go_simp)
                        first
                          | exact hK _ (Ext.refl _)
                      simp only [setL, List.set_cons_succ, List.set_cons_zero])
                   | (refine wpML_fact (OwnF 63 w3.heap.size 2 n.ents.length (entCells n.ents)) (OwnF.stable _ _ _ _ _) rfl ?_ ?_
                      · intro a w' he hr K hK
                        simp [Reads, Oper.looksAt, Op.operands, Call.operands, factAt, Is] at hr
                        go_simp
                        refine (HCl.out _ he).mono ?_
                        rintro e w'' ⟨v, rfl, he', hf⟩
                        exact hK _ _ he' hf
                      simp only [setL, List.set_cons_succ, List.set_cons_zero])
                   | (refine wpML_fact (Fresh 1 1 (.cells #[.string ⟨bel.toArray⟩, .int .i64 (entAt n.ents 0).2] 63)) (Fresh.stable _ _ _) rfl ?_ ?_
                      · intro a w' he hr K hK
                        simp [Reads, Oper.looksAt, Op.operands, Call.operands, factAt, Is] at hr
                        go_simp
                        exact hK _ _ (Ext.alloc _ _) (Fresh.new _ _ _ _)
                      simp only [setL, List.set_cons_succ, List.set_cons_zero])
                   | (apply wpML_det rfl
                      · intro a w' he hr K hK
                        simp [Reads, Oper.looksAt, Op.operands, Call.operands, factAt, Fresh] at hr
                        obtain ⟨b, hr1, hr2⟩ := hr
                        go_simp
                        exact hK _ (Ext.refl _)
                      simp only [setL, List.set_cons_succ, List.set_cons_zero]))
                 intro w2 he2
                 repeat (first | with_reducible refine rest_is _ _ _ _ ?_ | (with_reducible refine rest_fact _ _ _ _ ?_; intro _ _) | with_reducible refine rest_end _ _ ?_)
                 simp only [List.reverse_cons, List.reverse_nil, List.nil_append, List.cons_append]
                 rename_i v1 hv1 v2 hv2
                 obtain ⟨q1, c1, rfl, hown1⟩ := hv1
                 obtain ⟨xb, rfl, hxb⟩ := hv2
                 have hneq := ins_ne hown1 hxb a1 (fun h => (ents_last (i := 0) (nodeB_ents Hg1.out).2.2 (by omega)).2 (by omega)) (by omega)
                 have hbn5 := he2.blk _ _ Hbn.out
                 have k2 := Blk.val hbn5 2 _ rfl
                 have hln5 := Blk.lt hbn5
                 have HIn := Lib.hid (InsertE_any q1 c1 n.ents.length 0 (entCells n.ents) [.string ⟨bel.toArray⟩, .int .i64 (entAt n.ents 0).2] xb w3.heap.size w2 hown1 hxb rfl (by intro u hu; simp at hu; rcases hu with rfl | rfl <;> rfl) (entCells_one _) (by omega) hl hneq he2.size)
                 have Hbz5 := Lib.hid (he2.blk _ _ Hbz.out)
                 have He5 := Lib.hid (HX.out.trans he2)
                 go_upto_region 11 with (go_at_call 117; refine HIn.out.mono ?_; rintro e w6 ⟨v', rfl, ho6, hgr6⟩; obtain ⟨q6, c6, rfl⟩ := own_slice ho6; have hbl6 := Below.of_grown hgr6 hown1 (Nat.le_refl _) he2.size; have hbn6 := Blk.below hbn5 hbl6 hln; have k6 := Blk.val hbn6 2 _ rfl; have fk6 := Blk.free hbn6 2; have hln6 := Blk.lt hbn6)
                 have hcx : Chg w.heap.size w6 (w6.setCell ⟨w.heap.size, 2, none⟩ (.slice q6 (n.ents.length + 1) c6)) := Chg.setCell
                 refine wp_name (fun w7 => Ext w w7 ∧ Blk w7 w.heap.size (.cells #[.int .i64 n.level, .int .i64 n.next, .slice q6 (n.ents.length + 1) c6] 26) ∧ Blk w7 (w.heap.size + 1) (.cells #[.int .i64 0, .int .i64 0, .slice none 0 0] 26) ∧ w7.ownsRow w3.heap.size 63 2 (.slice q6 (n.ents.length + 1) c6) (n.ents.length + 1) ((entCells n.ents).take (0 * 2) ++ [.string ⟨bel.toArray⟩, .int .i64 (entAt n.ents 0).2] ++ (entCells n.ents).drop (0 * 2))) ⟨hcx.ext (Ext.trans' He5.out (Below.of_grown hgr6 hown1 (Nat.le_of_lt hln) he2.size)) (Nat.le_refl _), Blk.setCell hbn6, hcx.blk (Blk.below Hbz5.out hbl6 (Blk.lt Hbz.out)) (by omega), own_chgT ho6 (by decide) hbn6 hcx⟩ ?_
                 rintro w7 ⟨hx7, hn7, hz7, ho7⟩
                 obtain ⟨g, cur, hq6, hg0, hgb, hcn, hcm, hcs, htk⟩ := own_parts ho7 (by omega)
                 subst hq6
                 have hcv := Blk.val hgb ((0 + 1) * 2 + 1) _ (Array.getElem?_eq_getElem (by omega))
                 have hcf := Blk.free hgb ((0 + 1) * 2 + 1)
                 have hgl := Blk.lt hgb
                 generalize cur[(0 + 1) * 2 + 1] = oldv at hcv
                 try simp only [Nat.zero_add, Nat.one_mul, Nat.reduceAdd, Nat.reduceMul] at hcv hcf
                 have n2 := Blk.val hn7 2 _ rfl
                 have hln7 := Blk.lt hn7
                 have iI : ((0 : Nat) : Int) + 1 < ((n.ents.length : Nat) : Int) + 1 := by omega
                 have iT : (((0 : Nat) : Int) + 1).toNat = 0 + 1 := by omega
                 have iN : ¬ (((0 : Nat) : Int) + 1 < 0) := by omega
                 clear hbn6 k6 fk6 hln6 hbl6 hgr6 ho6 hbn5 k2 hln5 hown1 hxb hneq HIn e1 e2 hlo e0
                 go_upto_region 12 with (fail)
                 have hcy : Chg g w7 (w7.setCell ⟨g, (0 + 1) * 2 + 1, none⟩ (.int .i64 page)) := Chg.setCell
                 have hzl := Blk.lt Hbz.out
                 refine wp_name (fun w8 => Ext w w8 ∧ Blk w8 w.heap.size (.cells #[.int .i64 n.level, .int .i64 n.next, .slice (some ⟨g, 0, none⟩) (n.ents.length + 1) c6] 26) ∧ Blk w8 (w.heap.size + 1) (.cells #[.int .i64 0, .int .i64 0, .slice none 0 0] 26) ∧ Cells w8 (some ⟨g, 0, none⟩) (entCells (splE n.ents 0 bel page)) ∧ Blk w8 g (.cells (cur.setIfInBounds ((0 + 1) * 2 + 1) (.int .i64 page)) 63))
                   ⟨hcy.ext hx7 (by omega), hcy.blk hn7 (by omega), hcy.blk hz7 (by omega), cells_take (n := (n.ents.length + 1) * 2) (Blk.setCell (i := (0 + 1) * 2 + 1) (v := .int .i64 page) hgb) (by rw [Array.toList_setIfInBounds, List.take_set, htk]; exact entCells_spl n.ents 0 bel page hI), Blk.setCell hgb⟩ ?_
                 rintro w8 ⟨hx8, hn8, hz8, hc8, hb8⟩
                 have m0 := Blk.val hn8 0 _ rfl
                 have m1 := Blk.val hn8 1 _ rfl
                 have m2 := Blk.val hn8 2 _ rfl
                 have hlt8 := Blk.lt hn8
                 have d0 := Blk.val hz8 0 _ rfl
                 have d1 := Blk.val hz8 1 _ rfl
                 have d2 := Blk.val hz8 2 _ rfl
                 have f0 := Blk.free hz8 0
                 have f1 := Blk.free hz8 1
                 have f2 := Blk.free hz8 2
                 have hlt9 := Blk.lt hz8
                 clear hcv hcf n2 hgb hgl htk
                 go_wp2_with fail
                 have hcz {v0 v1 v2 : Value} : Chg (w.heap.size + 1) w8 (((w8.setCell ⟨w.heap.size + 1, 0, none⟩ v0).setCell ⟨w.heap.size + 1, 1, none⟩ v1).setCell ⟨w.heap.size + 1, 2, none⟩ v2) := (Chg.setCell.trans Chg.setCell).trans Chg.setCell
                 exact bodyPost_ret (results_row1 Tryz.results63 _ _ _ _ _ _ rfl (Blk.setCell (Blk.setCell (Blk.setCell hz8))) ndDesc rfl ndSize) rfl (by rw [HR.out]; exact ⟨hcz.ext hx8 (by omega), some ⟨g, 0, none⟩, c6, by simp only [ndV, splE_len hI]; rfl, cells_chg hc8 (by omega) hcz, by rw [splE_len hI]; exact hcn, fun _ => ⟨g, by have := HX.out.size; omega, rfl, _, hcz.blk hb8 (by omega)⟩⟩)
               · skip
                 go_upto_region 10 with (fail)
                 refine wp_region_mk 9 (Ext.refl w3) (by kernel_rfl) (by kernel_rfl) (by kernel_rfl) ?_
                 simp only [List.take_succ_cons, List.take_zero, List.take_nil, List.drop_succ_cons, List.drop_zero, List.drop_nil, List.map_cons, List.map_nil]
                 repeat (first
                   | (refine wpML_move _ _ rfl (by first | exact .inl rfl | exact .inr rfl) rfl (by first | exact Is.stable _ | exact AppF.stable _ | exact WrF.stable _ | exact PtrF.stable _ _ | exact IfcF.stable (Fresh.stable _ _ _) _ | exact PairF.stable (RowF.stable _ _ _ _) _ | exact RowF.stable _ _ _ _ | exact Fresh.stable _ _ _) ?_
                      simp only [setL, List.set_cons_succ, List.set_cons_zero, List.getD_cons_succ, List.getD_cons_zero])
                   | (refine wpML_moveC _ rfl (by first | exact .inl rfl | exact .inr rfl) ?_
                      simp only [setL, List.set_cons_succ, List.set_cons_zero])
                   | (apply wpML_det rfl
                      · intro a w' he hr K hK
                        simp [Reads, Oper.looksAt, Op.operands, Call.operands, factAt, Is] at hr
                        have hx := he.cell
                        go_simp
                        try go_bits
                        try (rw [if_neg (by omega)]; go_simp)
                        first
                          | exact hK _ (Ext.refl _)
                      simp only [setL, List.set_cons_succ, List.set_cons_zero])
                   | (refine wpML_fact (OwnF 63 w3.heap.size 2 n.ents.length (entCells n.ents)) (OwnF.stable _ _ _ _ _) rfl ?_ ?_
                      · intro a w' he hr K hK
                        simp [Reads, Oper.looksAt, Op.operands, Call.operands, factAt, Is] at hr
                        go_simp
                        refine (HCl.out _ he).mono ?_
                        rintro e w'' ⟨v, rfl, he', hf⟩
                        exact hK _ _ he' hf
                      simp only [setL, List.set_cons_succ, List.set_cons_zero])
                   | (refine wpML_fact (Fresh 1 1 (.cells #[.string ⟨bel.toArray⟩, .int .i64 (entAt n.ents 0).2] 63)) (Fresh.stable _ _ _) rfl ?_ ?_
                      · intro a w' he hr K hK
                        simp [Reads, Oper.looksAt, Op.operands, Call.operands, factAt, Is] at hr
                        go_simp
                        exact hK _ _ (Ext.alloc _ _) (Fresh.new _ _ _ _)
                      simp only [setL, List.set_cons_succ, List.set_cons_zero])
                   | (apply wpML_det rfl
                      · intro a w' he hr K hK
                        simp [Reads, Oper.looksAt, Op.operands, Call.operands, factAt, Fresh] at hr
                        obtain ⟨b, hr1, hr2⟩ := hr
                        go_simp
                        exact hK _ (Ext.refl _)
                      simp only [setL, List.set_cons_succ, List.set_cons_zero]))
                 intro w2 he2
                 repeat (first | with_reducible refine rest_is _ _ _ _ ?_ | (with_reducible refine rest_fact _ _ _ _ ?_; intro _ _) | with_reducible refine rest_end _ _ ?_)
                 simp only [List.reverse_cons, List.reverse_nil, List.nil_append, List.cons_append]
                 rename_i v1 hv1 v2 hv2
                 obtain ⟨q1, c1, rfl, hown1⟩ := hv1
                 obtain ⟨xb, rfl, hxb⟩ := hv2
                 have hneq := ins_ne hown1 hxb a1 (fun h => (ents_last (i := 0) (nodeB_ents Hg1.out).2.2 (by omega)).2 (by omega)) (by omega)
                 have hbn5 := he2.blk _ _ Hbn.out
                 have k2 := Blk.val hbn5 2 _ rfl
                 have hln5 := Blk.lt hbn5
                 have HIn := Lib.hid (InsertE_any q1 c1 n.ents.length 0 (entCells n.ents) [.string ⟨bel.toArray⟩, .int .i64 (entAt n.ents 0).2] xb w3.heap.size w2 hown1 hxb rfl (by intro u hu; simp at hu; rcases hu with rfl | rfl <;> rfl) (entCells_one _) (by omega) hl hneq he2.size)
                 have Hbz5 := Lib.hid (he2.blk _ _ Hbz.out)
                 have He5 := Lib.hid (HX.out.trans he2)
                 go_upto_region 11 with (go_at_call 117; refine HIn.out.mono ?_; rintro e w6 ⟨v', rfl, ho6, hgr6⟩; obtain ⟨q6, c6, rfl⟩ := own_slice ho6; have hbl6 := Below.of_grown hgr6 hown1 (Nat.le_refl _) he2.size; have hbn6 := Blk.below hbn5 hbl6 hln; have k6 := Blk.val hbn6 2 _ rfl; have fk6 := Blk.free hbn6 2; have hln6 := Blk.lt hbn6)
                 have hcx : Chg w.heap.size w6 (w6.setCell ⟨w.heap.size, 2, none⟩ (.slice q6 (n.ents.length + 1) c6)) := Chg.setCell
                 refine wp_name (fun w7 => Ext w w7 ∧ Blk w7 w.heap.size (.cells #[.int .i64 n.level, .int .i64 n.next, .slice q6 (n.ents.length + 1) c6] 26) ∧ Blk w7 (w.heap.size + 1) (.cells #[.int .i64 0, .int .i64 0, .slice none 0 0] 26) ∧ w7.ownsRow w3.heap.size 63 2 (.slice q6 (n.ents.length + 1) c6) (n.ents.length + 1) ((entCells n.ents).take (0 * 2) ++ [.string ⟨bel.toArray⟩, .int .i64 (entAt n.ents 0).2] ++ (entCells n.ents).drop (0 * 2))) ⟨hcx.ext (Ext.trans' He5.out (Below.of_grown hgr6 hown1 (Nat.le_of_lt hln) he2.size)) (Nat.le_refl _), Blk.setCell hbn6, hcx.blk (Blk.below Hbz5.out hbl6 (Blk.lt Hbz.out)) (by omega), own_chgT ho6 (by decide) hbn6 hcx⟩ ?_
                 rintro w7 ⟨hx7, hn7, hz7, ho7⟩
                 obtain ⟨g, cur, hq6, hg0, hgb, hcn, hcm, hcs, htk⟩ := own_parts ho7 (by omega)
                 subst hq6
                 have hcv := Blk.val hgb ((0 + 1) * 2 + 1) _ (Array.getElem?_eq_getElem (by omega))
                 have hcf := Blk.free hgb ((0 + 1) * 2 + 1)
                 have hgl := Blk.lt hgb
                 generalize cur[(0 + 1) * 2 + 1] = oldv at hcv
                 try simp only [Nat.zero_add, Nat.one_mul, Nat.reduceAdd, Nat.reduceMul] at hcv hcf
                 have n2 := Blk.val hn7 2 _ rfl
                 have hln7 := Blk.lt hn7
                 have iI : ((0 : Nat) : Int) + 1 < ((n.ents.length : Nat) : Int) + 1 := by omega
                 have iT : (((0 : Nat) : Int) + 1).toNat = 0 + 1 := by omega
                 have iN : ¬ (((0 : Nat) : Int) + 1 < 0) := by omega
                 clear hbn6 k6 fk6 hln6 hbl6 hgr6 ho6 hbn5 k2 hln5 hown1 hxb hneq HIn e1 e2 hlo e0
                 go_upto_region 12 with (fail)
                 have hcy : Chg g w7 (w7.setCell ⟨g, (0 + 1) * 2 + 1, none⟩ (.int .i64 page)) := Chg.setCell
                 have hzl := Blk.lt Hbz.out
                 refine wp_name (fun w8 => Ext w w8 ∧ Blk w8 w.heap.size (.cells #[.int .i64 n.level, .int .i64 n.next, .slice (some ⟨g, 0, none⟩) (n.ents.length + 1) c6] 26) ∧ Blk w8 (w.heap.size + 1) (.cells #[.int .i64 0, .int .i64 0, .slice none 0 0] 26) ∧ Cells w8 (some ⟨g, 0, none⟩) (entCells (splE n.ents 0 bel page)) ∧ Blk w8 g (.cells (cur.setIfInBounds ((0 + 1) * 2 + 1) (.int .i64 page)) 63))
                   ⟨hcy.ext hx7 (by omega), hcy.blk hn7 (by omega), hcy.blk hz7 (by omega), cells_take (n := (n.ents.length + 1) * 2) (Blk.setCell (i := (0 + 1) * 2 + 1) (v := .int .i64 page) hgb) (by rw [Array.toList_setIfInBounds, List.take_set, htk]; exact entCells_spl n.ents 0 bel page hI), Blk.setCell hgb⟩ ?_
                 rintro w8 ⟨hx8, hn8, hz8, hc8, hb8⟩
                 have m0 := Blk.val hn8 0 _ rfl
                 have m1 := Blk.val hn8 1 _ rfl
                 have m2 := Blk.val hn8 2 _ rfl
                 have hlt8 := Blk.lt hn8
                 have d0 := Blk.val hz8 0 _ rfl
                 have d1 := Blk.val hz8 1 _ rfl
                 have d2 := Blk.val hz8 2 _ rfl
                 have f0 := Blk.free hz8 0
                 have f1 := Blk.free hz8 1
                 have f2 := Blk.free hz8 2
                 have hlt9 := Blk.lt hz8
                 clear hcv hcf n2 hgb hgl htk
                 go_wp2_with fail
                 have hcz {v0 v1 v2 : Value} : Chg (w.heap.size + 1) w8 (((w8.setCell ⟨w.heap.size + 1, 0, none⟩ v0).setCell ⟨w.heap.size + 1, 1, none⟩ v1).setCell ⟨w.heap.size + 1, 2, none⟩ v2) := (Chg.setCell.trans Chg.setCell).trans Chg.setCell
                 exact bodyPost_ret (results_row1 Tryz.results63 _ _ _ _ _ _ rfl (Blk.setCell (Blk.setCell (Blk.setCell hz8))) ndDesc rfl ndSize) rfl (by rw [HR.out]; exact ⟨hcz.ext hx8 (by omega), some ⟨g, 0, none⟩, c6, by simp only [ndV, splE_len hI]; rfl, cells_chg hc8 (by omega) hcz, by rw [splE_len hI]; exact hcn, fun _ => ⟨g, by have := HX.out.size; omega, rfl, _, hcz.blk hb8 (by omega)⟩⟩)
         · obtain ⟨b', off', hq, _, hc⟩ := Hcc3.out (I - 1) (by omega)
           simp only [Option.some.injEq, Addr.mk.injEq] at hq
           obtain ⟨rfl, rfl, _⟩ := hq
           obtain ⟨hcj, _⟩ := hc (I - 1) (by omega)
           have i3 : (I : Int) - 1 = ((I - 1 : Nat) : Int) := by omega
           have i4 : (0 : Int) < (I : Int) := by omega
           have i5 : ((I - 1 : Nat) : Int) < (n.ents.length : Int) := by omega
           have i6 : (Go.Op.bytesLess bel (entAt n.ents (I - 1)).1 || bel == (entAt n.ents (I - 1)).1) = false := by rw [bl_ge, a3' (by omega)]; rfl
           clear hc
           go_upto_region 6 with (fail)
           by_cases a5 : (entAt n.ents I).1 ≠ [] ∧ bl bel (entAt n.ents I).1 = false
           · rw [if_pos (.inr (.inr (.inr a5)))] at HR
             have n5 : ¬ (entAt n.ents I).1 = [] := a5.1
             have n5' : (entAt n.ents I).1.isEmpty = false := by simpa using a5.1
             have n6 : Go.Op.bytesLess bel (entAt n.ents I).1 = false := a5.2
             go_upto_region 7 with (fail)
             have hb2 := Hbz.out
             have d0 := Blk.val hb2 0 _ rfl
             have d1 := Blk.val hb2 1 _ rfl
             have d2 := Blk.val hb2 2 _ rfl
             have f0 := Blk.free hb2 0
             have f1 := Blk.free hb2 1
             have f2 := Blk.free hb2 2
             have hlt2 := Blk.lt hb2
             go_wp2_with fail
             exact bodyPost_ret (results_row1 Tryz.results63 _ _ _ _ _ _ rfl (Blk.setCell (Blk.setCell (Blk.setCell hb2))) ndDesc rfl ndSize) rfl (by rw [HR.out]; exact HZ.out _ _ _ (((Chg.setCell (g := w.heap.size + 1)).trans Chg.setCell).trans Chg.setCell |>.ext HX.out (by omega)) (by decide))
           · rw [if_neg (hne2.resolve_right a5)] at HR
             have n7 : (entAt n.ents I).1 = [] ∨ (¬ (entAt n.ents I).1 = [] ∧ Go.Op.bytesLess bel (entAt n.ents I).1 = true) := by
               by_cases h : (entAt n.ents I).1 = []
               · exact .inl h
               · refine .inr ⟨h, ?_⟩
                 cases hb : bl bel (entAt n.ents I).1
                 · exact absurd ⟨h, hb⟩ a5
                 · exact hb
             clear hne2 a5
             by_cases a6 : n.ents.length = 120
             · rw [if_pos a6] at HR
               have i7 : ((n.ents.length : Int) == 120) = true := by simp; omega
               clear a6
               rcases n7 with n7 | ⟨n7, n8⟩
               · skip
                 go_upto_region 9 with (fail)
                 have hb2 := Hbz.out
                 have d0 := Blk.val hb2 0 _ rfl
                 have d1 := Blk.val hb2 1 _ rfl
                 have d2 := Blk.val hb2 2 _ rfl
                 have f0 := Blk.free hb2 0
                 have f1 := Blk.free hb2 1
                 have f2 := Blk.free hb2 2
                 have hlt2 := Blk.lt hb2
                 go_wp2_with fail
                 exact bodyPost_ret (results_row1 Tryz.results63 _ _ _ _ _ _ rfl (Blk.setCell (Blk.setCell (Blk.setCell hb2))) ndDesc rfl ndSize) rfl (by rw [HR.out]; exact HZ.out _ _ _ (((Chg.setCell (g := w.heap.size + 1)).trans Chg.setCell).trans Chg.setCell |>.ext HX.out (by omega)) (by decide))
               · skip
                 go_upto_region 9 with (fail)
                 have hb2 := Hbz.out
                 have d0 := Blk.val hb2 0 _ rfl
                 have d1 := Blk.val hb2 1 _ rfl
                 have d2 := Blk.val hb2 2 _ rfl
                 have f0 := Blk.free hb2 0
                 have f1 := Blk.free hb2 1
                 have f2 := Blk.free hb2 2
                 have hlt2 := Blk.lt hb2
                 go_wp2_with fail
                 exact bodyPost_ret (results_row1 Tryz.results63 _ _ _ _ _ _ rfl (Blk.setCell (Blk.setCell (Blk.setCell hb2))) ndDesc rfl ndSize) rfl (by rw [HR.out]; exact HZ.out _ _ _ (((Chg.setCell (g := w.heap.size + 1)).trans Chg.setCell).trans Chg.setCell |>.ext HX.out (by omega)) (by decide))
             · rw [if_neg a6] at HR
               have i7 : ((n.ents.length : Int) == 120) = false := by simp; omega
               have Ha6 := Lib.hid a6
               clear a6
               rcases n7 with n7 | ⟨n7, n8⟩
               · skip
                 go_upto_region 10 with (fail)
                 refine wp_region_mk 9 (Ext.refl w3) (by kernel_rfl) (by kernel_rfl) (by kernel_rfl) ?_
                 simp only [List.take_succ_cons, List.take_zero, List.take_nil, List.drop_succ_cons, List.drop_zero, List.drop_nil, List.map_cons, List.map_nil]
                 repeat (first
                   | (refine wpML_move _ _ rfl (by first | exact .inl rfl | exact .inr rfl) rfl (by first | exact Is.stable _ | exact AppF.stable _ | exact WrF.stable _ | exact PtrF.stable _ _ | exact IfcF.stable (Fresh.stable _ _ _) _ | exact PairF.stable (RowF.stable _ _ _ _) _ | exact RowF.stable _ _ _ _ | exact Fresh.stable _ _ _) ?_
                      simp only [setL, List.set_cons_succ, List.set_cons_zero, List.getD_cons_succ, List.getD_cons_zero])
                   | (refine wpML_moveC _ rfl (by first | exact .inl rfl | exact .inr rfl) ?_
                      simp only [setL, List.set_cons_succ, List.set_cons_zero])
                   | (apply wpML_det rfl
                      · intro a w' he hr K hK
                        simp [Reads, Oper.looksAt, Op.operands, Call.operands, factAt, Is] at hr
                        have hx := he.cell
                        go_simp
                        try go_bits
                        try (rw [if_neg (by omega)]; go_simp)
                        first
                          | exact hK _ (Ext.refl _)
                      simp only [setL, List.set_cons_succ, List.set_cons_zero])
                   | (refine wpML_fact (OwnF 63 w3.heap.size 2 n.ents.length (entCells n.ents)) (OwnF.stable _ _ _ _ _) rfl ?_ ?_
                      · intro a w' he hr K hK
                        simp [Reads, Oper.looksAt, Op.operands, Call.operands, factAt, Is] at hr
                        go_simp
                        refine (HCl.out _ he).mono ?_
                        rintro e w'' ⟨v, rfl, he', hf⟩
                        exact hK _ _ he' hf
                      simp only [setL, List.set_cons_succ, List.set_cons_zero])
                   | (refine wpML_fact (Fresh 1 1 (.cells #[.string ⟨bel.toArray⟩, .int .i64 (entAt n.ents I).2] 63)) (Fresh.stable _ _ _) rfl ?_ ?_
                      · intro a w' he hr K hK
                        simp [Reads, Oper.looksAt, Op.operands, Call.operands, factAt, Is] at hr
                        go_simp
                        exact hK _ _ (Ext.alloc _ _) (Fresh.new _ _ _ _)
                      simp only [setL, List.set_cons_succ, List.set_cons_zero])
                   | (apply wpML_det rfl
                      · intro a w' he hr K hK
                        simp [Reads, Oper.looksAt, Op.operands, Call.operands, factAt, Fresh] at hr
                        obtain ⟨b, hr1, hr2⟩ := hr
                        go_simp
                        exact hK _ (Ext.refl _)
                      simp only [setL, List.set_cons_succ, List.set_cons_zero]))
                 intro w2 he2
                 repeat (first | with_reducible refine rest_is _ _ _ _ ?_ | (with_reducible refine rest_fact _ _ _ _ ?_; intro _ _) | with_reducible refine rest_end _ _ ?_)
                 simp only [List.reverse_cons, List.reverse_nil, List.nil_append, List.cons_append]
                 rename_i v1 hv1 v2 hv2
                 obtain ⟨q1, c1, rfl, hown1⟩ := hv1
                 obtain ⟨xb, rfl, hxb⟩ := hv2
                 have hneq := ins_ne hown1 hxb a1 (fun h => (ents_last (i := 0) (nodeB_ents Hg1.out).2.2 (by omega)).2 (by omega)) (by omega)
                 have hbn5 := he2.blk _ _ Hbn.out
                 have k2 := Blk.val hbn5 2 _ rfl
                 have hln5 := Blk.lt hbn5
                 have HIn := Lib.hid (InsertE_any q1 c1 n.ents.length I (entCells n.ents) [.string ⟨bel.toArray⟩, .int .i64 (entAt n.ents I).2] xb w3.heap.size w2 hown1 hxb rfl (by intro u hu; simp at hu; rcases hu with rfl | rfl <;> rfl) (entCells_one _) (by omega) hl hneq he2.size)
                 have Hbz5 := Lib.hid (he2.blk _ _ Hbz.out)
                 have He5 := Lib.hid (HX.out.trans he2)
                 go_upto_region 11 with (go_at_call 117; refine HIn.out.mono ?_; rintro e w6 ⟨v', rfl, ho6, hgr6⟩; obtain ⟨q6, c6, rfl⟩ := own_slice ho6; have hbl6 := Below.of_grown hgr6 hown1 (Nat.le_refl _) he2.size; have hbn6 := Blk.below hbn5 hbl6 hln; have k6 := Blk.val hbn6 2 _ rfl; have fk6 := Blk.free hbn6 2; have hln6 := Blk.lt hbn6)
                 have hcx : Chg w.heap.size w6 (w6.setCell ⟨w.heap.size, 2, none⟩ (.slice q6 (n.ents.length + 1) c6)) := Chg.setCell
                 refine wp_name (fun w7 => Ext w w7 ∧ Blk w7 w.heap.size (.cells #[.int .i64 n.level, .int .i64 n.next, .slice q6 (n.ents.length + 1) c6] 26) ∧ Blk w7 (w.heap.size + 1) (.cells #[.int .i64 0, .int .i64 0, .slice none 0 0] 26) ∧ w7.ownsRow w3.heap.size 63 2 (.slice q6 (n.ents.length + 1) c6) (n.ents.length + 1) ((entCells n.ents).take (I * 2) ++ [.string ⟨bel.toArray⟩, .int .i64 (entAt n.ents I).2] ++ (entCells n.ents).drop (I * 2))) ⟨hcx.ext (Ext.trans' He5.out (Below.of_grown hgr6 hown1 (Nat.le_of_lt hln) he2.size)) (Nat.le_refl _), Blk.setCell hbn6, hcx.blk (Blk.below Hbz5.out hbl6 (Blk.lt Hbz.out)) (by omega), own_chgT ho6 (by decide) hbn6 hcx⟩ ?_
                 rintro w7 ⟨hx7, hn7, hz7, ho7⟩
                 obtain ⟨g, cur, hq6, hg0, hgb, hcn, hcm, hcs, htk⟩ := own_parts ho7 (by omega)
                 subst hq6
                 have hcv := Blk.val hgb ((I + 1) * 2 + 1) _ (Array.getElem?_eq_getElem (by omega))
                 have hcf := Blk.free hgb ((I + 1) * 2 + 1)
                 have hgl := Blk.lt hgb
                 generalize cur[(I + 1) * 2 + 1] = oldv at hcv
                 try simp only [Nat.zero_add, Nat.one_mul, Nat.reduceAdd, Nat.reduceMul] at hcv hcf
                 have n2 := Blk.val hn7 2 _ rfl
                 have hln7 := Blk.lt hn7
                 have iI : ((I : Nat) : Int) + 1 < ((n.ents.length : Nat) : Int) + 1 := by omega
                 have iT : (((I : Nat) : Int) + 1).toNat = I + 1 := by omega
                 have iN : ¬ (((I : Nat) : Int) + 1 < 0) := by omega
                 clear hbn6 k6 fk6 hln6 hbl6 hgr6 ho6 hbn5 k2 hln5 hown1 hxb hneq HIn e1 e2 hlo e0
                 go_upto_region 12 with (fail)
                 have hcy : Chg g w7 (w7.setCell ⟨g, (I + 1) * 2 + 1, none⟩ (.int .i64 page)) := Chg.setCell
                 have hzl := Blk.lt Hbz.out
                 refine wp_name (fun w8 => Ext w w8 ∧ Blk w8 w.heap.size (.cells #[.int .i64 n.level, .int .i64 n.next, .slice (some ⟨g, 0, none⟩) (n.ents.length + 1) c6] 26) ∧ Blk w8 (w.heap.size + 1) (.cells #[.int .i64 0, .int .i64 0, .slice none 0 0] 26) ∧ Cells w8 (some ⟨g, 0, none⟩) (entCells (splE n.ents I bel page)) ∧ Blk w8 g (.cells (cur.setIfInBounds ((I + 1) * 2 + 1) (.int .i64 page)) 63))
                   ⟨hcy.ext hx7 (by omega), hcy.blk hn7 (by omega), hcy.blk hz7 (by omega), cells_take (n := (n.ents.length + 1) * 2) (Blk.setCell (i := (I + 1) * 2 + 1) (v := .int .i64 page) hgb) (by rw [Array.toList_setIfInBounds, List.take_set, htk]; exact entCells_spl n.ents I bel page hI), Blk.setCell hgb⟩ ?_
                 rintro w8 ⟨hx8, hn8, hz8, hc8, hb8⟩
                 have m0 := Blk.val hn8 0 _ rfl
                 have m1 := Blk.val hn8 1 _ rfl
                 have m2 := Blk.val hn8 2 _ rfl
                 have hlt8 := Blk.lt hn8
                 have d0 := Blk.val hz8 0 _ rfl
                 have d1 := Blk.val hz8 1 _ rfl
                 have d2 := Blk.val hz8 2 _ rfl
                 have f0 := Blk.free hz8 0
                 have f1 := Blk.free hz8 1
                 have f2 := Blk.free hz8 2
                 have hlt9 := Blk.lt hz8
                 clear hcv hcf n2 hgb hgl htk
                 go_wp2_with fail
                 have hcz {v0 v1 v2 : Value} : Chg (w.heap.size + 1) w8 (((w8.setCell ⟨w.heap.size + 1, 0, none⟩ v0).setCell ⟨w.heap.size + 1, 1, none⟩ v1).setCell ⟨w.heap.size + 1, 2, none⟩ v2) := (Chg.setCell.trans Chg.setCell).trans Chg.setCell
                 exact bodyPost_ret (results_row1 Tryz.results63 _ _ _ _ _ _ rfl (Blk.setCell (Blk.setCell (Blk.setCell hz8))) ndDesc rfl ndSize) rfl (by rw [HR.out]; exact ⟨hcz.ext hx8 (by omega), some ⟨g, 0, none⟩, c6, by simp only [ndV, splE_len hI]; rfl, cells_chg hc8 (by omega) hcz, by rw [splE_len hI]; exact hcn, fun _ => ⟨g, by have := HX.out.size; omega, rfl, _, hcz.blk hb8 (by omega)⟩⟩)
               · skip
                 go_upto_region 10 with (fail)
                 refine wp_region_mk 9 (Ext.refl w3) (by kernel_rfl) (by kernel_rfl) (by kernel_rfl) ?_
                 simp only [List.take_succ_cons, List.take_zero, List.take_nil, List.drop_succ_cons, List.drop_zero, List.drop_nil, List.map_cons, List.map_nil]
                 repeat (first
                   | (refine wpML_move _ _ rfl (by first | exact .inl rfl | exact .inr rfl) rfl (by first | exact Is.stable _ | exact AppF.stable _ | exact WrF.stable _ | exact PtrF.stable _ _ | exact IfcF.stable (Fresh.stable _ _ _) _ | exact PairF.stable (RowF.stable _ _ _ _) _ | exact RowF.stable _ _ _ _ | exact Fresh.stable _ _ _) ?_
                      simp only [setL, List.set_cons_succ, List.set_cons_zero, List.getD_cons_succ, List.getD_cons_zero])
                   | (refine wpML_moveC _ rfl (by first | exact .inl rfl | exact .inr rfl) ?_
                      simp only [setL, List.set_cons_succ, List.set_cons_zero])
                   | (apply wpML_det rfl
                      · intro a w' he hr K hK
                        simp [Reads, Oper.looksAt, Op.operands, Call.operands, factAt, Is] at hr
                        have hx := he.cell
                        go_simp
                        try go_bits
                        try (rw [if_neg (by omega)]; go_simp)
                        first
                          | exact hK _ (Ext.refl _)
                      simp only [setL, List.set_cons_succ, List.set_cons_zero])
                   | (refine wpML_fact (OwnF 63 w3.heap.size 2 n.ents.length (entCells n.ents)) (OwnF.stable _ _ _ _ _) rfl ?_ ?_
                      · intro a w' he hr K hK
                        simp [Reads, Oper.looksAt, Op.operands, Call.operands, factAt, Is] at hr
                        go_simp
                        refine (HCl.out _ he).mono ?_
                        rintro e w'' ⟨v, rfl, he', hf⟩
                        exact hK _ _ he' hf
                      simp only [setL, List.set_cons_succ, List.set_cons_zero])
                   | (refine wpML_fact (Fresh 1 1 (.cells #[.string ⟨bel.toArray⟩, .int .i64 (entAt n.ents I).2] 63)) (Fresh.stable _ _ _) rfl ?_ ?_
                      · intro a w' he hr K hK
                        simp [Reads, Oper.looksAt, Op.operands, Call.operands, factAt, Is] at hr
                        go_simp
                        exact hK _ _ (Ext.alloc _ _) (Fresh.new _ _ _ _)
                      simp only [setL, List.set_cons_succ, List.set_cons_zero])
                   | (apply wpML_det rfl
                      · intro a w' he hr K hK
                        simp [Reads, Oper.looksAt, Op.operands, Call.operands, factAt, Fresh] at hr
                        obtain ⟨b, hr1, hr2⟩ := hr
                        go_simp
                        exact hK _ (Ext.refl _)
                      simp only [setL, List.set_cons_succ, List.set_cons_zero]))
                 intro w2 he2
                 repeat (first | with_reducible refine rest_is _ _ _ _ ?_ | (with_reducible refine rest_fact _ _ _ _ ?_; intro _ _) | with_reducible refine rest_end _ _ ?_)
                 simp only [List.reverse_cons, List.reverse_nil, List.nil_append, List.cons_append]
                 rename_i v1 hv1 v2 hv2
                 obtain ⟨q1, c1, rfl, hown1⟩ := hv1
                 obtain ⟨xb, rfl, hxb⟩ := hv2
                 have hneq := ins_ne hown1 hxb a1 (fun h => (ents_last (i := 0) (nodeB_ents Hg1.out).2.2 (by omega)).2 (by omega)) (by omega)
                 have hbn5 := he2.blk _ _ Hbn.out
                 have k2 := Blk.val hbn5 2 _ rfl
                 have hln5 := Blk.lt hbn5
                 have HIn := Lib.hid (InsertE_any q1 c1 n.ents.length I (entCells n.ents) [.string ⟨bel.toArray⟩, .int .i64 (entAt n.ents I).2] xb w3.heap.size w2 hown1 hxb rfl (by intro u hu; simp at hu; rcases hu with rfl | rfl <;> rfl) (entCells_one _) (by omega) hl hneq he2.size)
                 have Hbz5 := Lib.hid (he2.blk _ _ Hbz.out)
                 have He5 := Lib.hid (HX.out.trans he2)
                 go_upto_region 11 with (go_at_call 117; refine HIn.out.mono ?_; rintro e w6 ⟨v', rfl, ho6, hgr6⟩; obtain ⟨q6, c6, rfl⟩ := own_slice ho6; have hbl6 := Below.of_grown hgr6 hown1 (Nat.le_refl _) he2.size; have hbn6 := Blk.below hbn5 hbl6 hln; have k6 := Blk.val hbn6 2 _ rfl; have fk6 := Blk.free hbn6 2; have hln6 := Blk.lt hbn6)
                 have hcx : Chg w.heap.size w6 (w6.setCell ⟨w.heap.size, 2, none⟩ (.slice q6 (n.ents.length + 1) c6)) := Chg.setCell
                 refine wp_name (fun w7 => Ext w w7 ∧ Blk w7 w.heap.size (.cells #[.int .i64 n.level, .int .i64 n.next, .slice q6 (n.ents.length + 1) c6] 26) ∧ Blk w7 (w.heap.size + 1) (.cells #[.int .i64 0, .int .i64 0, .slice none 0 0] 26) ∧ w7.ownsRow w3.heap.size 63 2 (.slice q6 (n.ents.length + 1) c6) (n.ents.length + 1) ((entCells n.ents).take (I * 2) ++ [.string ⟨bel.toArray⟩, .int .i64 (entAt n.ents I).2] ++ (entCells n.ents).drop (I * 2))) ⟨hcx.ext (Ext.trans' He5.out (Below.of_grown hgr6 hown1 (Nat.le_of_lt hln) he2.size)) (Nat.le_refl _), Blk.setCell hbn6, hcx.blk (Blk.below Hbz5.out hbl6 (Blk.lt Hbz.out)) (by omega), own_chgT ho6 (by decide) hbn6 hcx⟩ ?_
                 rintro w7 ⟨hx7, hn7, hz7, ho7⟩
                 obtain ⟨g, cur, hq6, hg0, hgb, hcn, hcm, hcs, htk⟩ := own_parts ho7 (by omega)
                 subst hq6
                 have hcv := Blk.val hgb ((I + 1) * 2 + 1) _ (Array.getElem?_eq_getElem (by omega))
                 have hcf := Blk.free hgb ((I + 1) * 2 + 1)
                 have hgl := Blk.lt hgb
                 generalize cur[(I + 1) * 2 + 1] = oldv at hcv
                 try simp only [Nat.zero_add, Nat.one_mul, Nat.reduceAdd, Nat.reduceMul] at hcv hcf
                 have n2 := Blk.val hn7 2 _ rfl
                 have hln7 := Blk.lt hn7
                 have iI : ((I : Nat) : Int) + 1 < ((n.ents.length : Nat) : Int) + 1 := by omega
                 have iT : (((I : Nat) : Int) + 1).toNat = I + 1 := by omega
                 have iN : ¬ (((I : Nat) : Int) + 1 < 0) := by omega
                 clear hbn6 k6 fk6 hln6 hbl6 hgr6 ho6 hbn5 k2 hln5 hown1 hxb hneq HIn e1 e2 hlo e0
                 go_upto_region 12 with (fail)
                 have hcy : Chg g w7 (w7.setCell ⟨g, (I + 1) * 2 + 1, none⟩ (.int .i64 page)) := Chg.setCell
                 have hzl := Blk.lt Hbz.out
                 refine wp_name (fun w8 => Ext w w8 ∧ Blk w8 w.heap.size (.cells #[.int .i64 n.level, .int .i64 n.next, .slice (some ⟨g, 0, none⟩) (n.ents.length + 1) c6] 26) ∧ Blk w8 (w.heap.size + 1) (.cells #[.int .i64 0, .int .i64 0, .slice none 0 0] 26) ∧ Cells w8 (some ⟨g, 0, none⟩) (entCells (splE n.ents I bel page)) ∧ Blk w8 g (.cells (cur.setIfInBounds ((I + 1) * 2 + 1) (.int .i64 page)) 63))
                   ⟨hcy.ext hx7 (by omega), hcy.blk hn7 (by omega), hcy.blk hz7 (by omega), cells_take (n := (n.ents.length + 1) * 2) (Blk.setCell (i := (I + 1) * 2 + 1) (v := .int .i64 page) hgb) (by rw [Array.toList_setIfInBounds, List.take_set, htk]; exact entCells_spl n.ents I bel page hI), Blk.setCell hgb⟩ ?_
                 rintro w8 ⟨hx8, hn8, hz8, hc8, hb8⟩
                 have m0 := Blk.val hn8 0 _ rfl
                 have m1 := Blk.val hn8 1 _ rfl
                 have m2 := Blk.val hn8 2 _ rfl
                 have hlt8 := Blk.lt hn8
                 have d0 := Blk.val hz8 0 _ rfl
                 have d1 := Blk.val hz8 1 _ rfl
                 have d2 := Blk.val hz8 2 _ rfl
                 have f0 := Blk.free hz8 0
                 have f1 := Blk.free hz8 1
                 have f2 := Blk.free hz8 2
                 have hlt9 := Blk.lt hz8
                 clear hcv hcf n2 hgb hgl htk
                 go_wp2_with fail
                 have hcz {v0 v1 v2 : Value} : Chg (w.heap.size + 1) w8 (((w8.setCell ⟨w.heap.size + 1, 0, none⟩ v0).setCell ⟨w.heap.size + 1, 1, none⟩ v1).setCell ⟨w.heap.size + 1, 2, none⟩ v2) := (Chg.setCell.trans Chg.setCell).trans Chg.setCell
                 exact bodyPost_ret (results_row1 Tryz.results63 _ _ _ _ _ _ rfl (Blk.setCell (Blk.setCell (Blk.setCell hz8))) ndDesc rfl ndSize) rfl (by rw [HR.out]; exact ⟨hcz.ext hx8 (by omega), some ⟨g, 0, none⟩, c6, by simp only [ndV, splE_len hI]; rfl, cells_chg hc8 (by omega) hcz, by rw [splE_len hI]; exact hcn, fun _ => ⟨g, by have := HX.out.size; omega, rfl, _, hcz.blk hb8 (by omega)⟩⟩)
end Go.Proofs.YtifmbcjbccedfaaGreatDoor
