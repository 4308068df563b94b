/- The walk of Bounds' visitor. -/
import Derived.Test.YtolmoknjmdmpgaaGreatDJ
import Derived.BigRegion
import Derived.BigQuiet
set_option linter.unusedSimpArgs false
set_option linter.unusedVariables false
namespace Go.Proofs.YtolmoknjmdmpgaaGreat
open Go.RowKit Dsd
/-- The greater of two strings. -/
@[local go_sem] theorem run_maxS (P : Program) (ats : Array TypeId) (ty : TypeId) (x y : List UInt8) (W : World) : (Builtin.max_ ats ty #[.string ⟨x.toArray⟩, .string ⟨y.toArray⟩]).run P W = .ok (.string ⟨(if bl x y = true then y else x).toArray⟩) W := by
  have e : ((⟨x.toArray⟩ : ByteArray).toList, (⟨y.toArray⟩ : ByteArray).toList) = (x, y) := by simp
  have e1 := congrArg Prod.fst e
  have e2 := congrArg Prod.snd e
  simp only at e1 e2
  cases hb : Go.Op.bytesLess x y <;> simp [Builtin.max_, Builtin.max2, Op.stringOp, e1, e2, bl, hb, go_sem]
/-- What Bounds' visitor may turn, in any world: variables of strings, behind B. -/
def TS (B : Nat) (w w' : World) : Prop := w.heap.size ≤ w'.heap.size ∧ (B ≤ w.heap.size → Below B w w') ∧ ∀ b cs t, t ≠ 9 → Blk w b (.cells cs t) → Blk w' b (.cells cs t)
theorem TS.trans {B : Nat} {W W' W'' : World} (a : TS B W W') (b : TS B W' W'') : TS B W W'' := ⟨Nat.le_trans a.1 b.1, fun hB => (a.2.1 hB).trans (b.2.1 (Nat.le_trans hB a.1)), fun x cs t h1 h3 => b.2.2 x cs t h1 (a.2.2 x cs t h1 h3)⟩
theorem TS.ofExt {B : Nat} {W W' : World} (e : Ext W W') : TS B W W' := ⟨e.size, fun hB => Below.mono e hB, fun x cs t _ h3 => e.blk _ _ h3⟩
theorem TS.chg {B b : Nat} {W W' : World} {cs : Array Value} (h : Blk W b (.cells cs 9)) (hB : B ≤ b) (c : Chg b W W') : TS B W W' := by
  have r := rty_chg (T := 9) h hB c
  exact ⟨by rw [c.size]; exact Nat.le_refl _, fun _ => r.1, fun x cs t h1 h3 => r.2 x cs t h1 h3⟩
set_option maxRecDepth 100000 in
set_option maxHeartbeats 2000000 in
theorem Bounds1_any (B lb hb : Nat) (low high : List UInt8) (nd : Nd) (qe : Option Addr) (ce i : Nat) (w : World) {B0 : Nat} (hlo : Blk w lb (.cells #[.string ⟨low.toArray⟩] 9)) (hhi : Blk w hb (.cells #[.string ⟨high.toArray⟩] 9)) (hne : lb ≠ hb) (hBl : B ≤ lb) (hBh : B ≤ hb)
    (ho : w.ownsRow B0 75 2 (.slice qe nd.ents.length ce) nd.ents.length (entCells nd.ents)) (hi : i < nd.ents.length) (hl : nd.ents.length ≤ 1000) :
    Calls Tryz.prog 32 #[.agg #[.int .i64 nd.level, .int .i64 nd.next, .slice qe nd.ents.length ce], .int .i64 (i : Nat), .pointer (some ⟨lb, 0, none⟩), .pointer (some ⟨hb, 0, none⟩)] w fun e w' => e = .returned (.tuple #[]) ∧ Blk w' lb (.cells #[.string ⟨(lowS low nd i).toArray⟩] 9) ∧ Blk w' hb (.cells #[.string ⟨(highS high nd i).toArray⟩] 9) ∧ TS B w w' := by
  obtain ⟨g, cur, rfl, hg0, hge, _, _, hcs, hct⟩ := own_parts ho (by omega)
  have hx0 := Ext.alloc w (.cells #[.int .i64 nd.level, .int .i64 nd.next, .slice (some ⟨g, 0, none⟩) nd.ents.length ce] 53)
  have hn0 := Blk.new w (.cells #[.int .i64 nd.level, .int .i64 nd.next, .slice (some ⟨g, 0, none⟩) nd.ents.length ce] 53)
  have hlo1 := hx0.blk _ _ hlo
  have hhi1 := hx0.blk _ _ hhi
  have ho1 := own_ext ho hx0
  have hT1 := TS.ofExt (B := B) hx0
  clear hx0 hlo hhi ho hge hcs hct
  obtain ⟨lo2, hlo⟩ : ∃ x, x = lowS low nd i := ⟨_, rfl⟩
  obtain ⟨hi2, hhi⟩ : ∃ x, x = highS high nd i := ⟨_, rfl⟩
  rw [← hlo, ← hhi]
  have Hhs : Hid (hi2 = if (entAt nd.ents i).1 ≠ [] ∧ (high = [] ∨ bl (entAt nd.ents i).1 high = true) then (entAt nd.ents i).1 else high) := Lib.hid hhi
  have Hlo := Lib.hid hlo
  clear hlo hhi
  have hiI : (i : Int) < nd.ents.length := by omega
  by_cases h0 : 0 < i
  case' pos =>
    have hl0 : lo2 = if bl low (entAt nd.ents (i - 1)).1 = true then (entAt nd.ents (i - 1)).1 else low := by rw [Hlo.out]; unfold lowS; rw [if_pos h0]
    have h0I : (0 : Int) < i := by omega
    go_enter Tryz.func32, Tryz.ntmps32
    go_upto_region 2 with (fail)
    obtain ⟨g2, off2, hq2, hg2, hcc2⟩ := (own_cellsND ho1).at (i - 1) (by omega)
    simp only [Option.some.injEq, Addr.mk.injEq, and_true] at hq2
    obtain ⟨rfl, rfl⟩ := hq2
    have c1 := (hcc2 (i - 1) (by omega)).1
    rw [Nat.zero_add] at c1
    have cl := Blk.val hlo1 0 _ rfl
    have fl := Blk.free hlo1 0
    have ll := Blk.lt hlo1
    have cn := Blk.val hn0 2 _ rfl
    have ln := Blk.lt hn0
    have hw1 : IntKind.i64.wrap ((i : Int) - 1) = ((i - 1 : Nat) : Int) := by rw [IntWalk.i64_in _ (by omega)]; omega
    have hi1I : ((i - 1 : Nat) : Int) < nd.ents.length := by omega
    have HR := Lib.hid (And.intro hlo1 (And.intro hhi1 (And.intro ho1 (And.intro hT1 hn0))))
    clear hcc2 hlo1 hhi1 ho1 hT1 hn0
    generalize w.alloc (.cells #[.int .i64 nd.level, .int .i64 nd.next, .slice (some ⟨g, 0, none⟩) nd.ents.length ce] 53) = w1 at *
    generalize w.heap.size = nb at *
    generalize (entAt nd.ents (i - 1)).1 = x at *
    go_region
    have hK : Blk (w1.setCell ⟨lb, 0, none⟩ (.string ⟨(if bl low x = true then x else low).toArray⟩)) lb (.cells #[.string ⟨lo2.toArray⟩] 9) ∧ Blk (w1.setCell ⟨lb, 0, none⟩ (.string ⟨(if bl low x = true then x else low).toArray⟩)) hb (.cells #[.string ⟨high.toArray⟩] 9) ∧ (w1.setCell ⟨lb, 0, none⟩ (.string ⟨(if bl low x = true then x else low).toArray⟩)).ownsRow B0 75 2 (.slice (some ⟨g, 0, none⟩) nd.ents.length ce) nd.ents.length (entCells nd.ents) ∧ TS B w (w1.setCell ⟨lb, 0, none⟩ (.string ⟨(if bl low x = true then x else low).toArray⟩)) ∧ Blk (w1.setCell ⟨lb, 0, none⟩ (.string ⟨(if bl low x = true then x else low).toArray⟩)) nb (.cells #[.int .i64 nd.level, .int .i64 nd.next, .slice (some ⟨g, 0, none⟩) nd.ents.length ce] 53) := by
      obtain ⟨a1, a2, a3, a4, a5⟩ := HR.out
      rw [hl0]
      exact ⟨Blk.setCell a1, (Chg.setCell).blk a2 (fun e => hne e.symm), own_chgT a3 (by decide) a1 Chg.setCell, a4.trans (TS.chg a1 hBl Chg.setCell), (Chg.setCell).blk a5 (ndBlk a5 a1 (by decide))⟩
    clear HR cl fl cn
    generalize w1.setCell ⟨lb, 0, none⟩ (.string ⟨(if bl low x = true then x else low).toArray⟩) = w2' at *
    generalize (if bl low x = true then x else low) = mx at *
    go_upto_region 3 with (fail)
    refine wp_name (fun w2 => Blk w2 lb (.cells #[.string ⟨lo2.toArray⟩] 9) ∧ Blk w2 hb (.cells #[.string ⟨high.toArray⟩] 9) ∧ w2.ownsRow B0 75 2 (.slice (some ⟨g, 0, none⟩) nd.ents.length ce) nd.ents.length (entCells nd.ents) ∧ TS B w w2 ∧ Blk w2 nb (.cells #[.int .i64 nd.level, .int .i64 nd.next, .slice (some ⟨g, 0, none⟩) nd.ents.length ce] 53)) ⟨(Ext.drew w2').blk _ _ hK.1, (Ext.drew w2').blk _ _ hK.2.1, own_ext hK.2.2.1 (Ext.drew w2'), hK.2.2.2.1.trans (TS.ofExt (Ext.drew w2')), (Ext.drew w2').blk _ _ hK.2.2.2.2⟩ ?_
    clear hK
  case' neg =>
    have hl0 : lo2 = low := by rw [Hlo.out]; unfold lowS; rw [if_neg h0]
    have h0I : decide ((0 : Int) < i) = false := decide_eq_false (by omega)
    go_enter Tryz.func32, Tryz.ntmps32
    go_upto_region 3 with (fail)
    refine wp_name (fun w2 => Blk w2 lb (.cells #[.string ⟨lo2.toArray⟩] 9) ∧ Blk w2 hb (.cells #[.string ⟨high.toArray⟩] 9) ∧ w2.ownsRow B0 75 2 (.slice (some ⟨g, 0, none⟩) nd.ents.length ce) nd.ents.length (entCells nd.ents) ∧ TS B w w2 ∧ Blk w2 w.heap.size (.cells #[.int .i64 nd.level, .int .i64 nd.next, .slice (some ⟨g, 0, none⟩) nd.ents.length ce] 53)) (by rw [hl0]; exact ⟨hlo1, hhi1, ho1, hT1, hn0⟩) ?_
    clear hlo1 hhi1 ho1 hT1 hn0
    generalize w.heap.size = nb at *
  all_goals
    rintro w2 ⟨b1, b2, b3, b4, b5⟩
    obtain ⟨g2, off2, hq2, hg2, hcc2⟩ := (own_cellsND b3).at i hi
    simp only [Option.some.injEq, Addr.mk.injEq, and_true] at hq2
    obtain ⟨rfl, rfl⟩ := hq2
    have c1 := (hcc2 i hi).1
    rw [Nat.zero_add] at c1
    have cn : w2.cell? ⟨nb, 2, none⟩ = some (.slice (some ⟨g, 0, none⟩) nd.ents.length ce) := Blk.val b5 2 _ rfl
    have ln := Blk.lt b5
    have ch : w2.cell? ⟨hb, 0, none⟩ = some (.string ⟨high.toArray⟩) := Blk.val b2 0 _ rfl
    have fh := Blk.free b2 0
    have lh := Blk.lt b2
    have HR := Lib.hid (And.intro b1 (And.intro b2 b4))
    clear hcc2 b1 b2 b3 b4 b5 hl0 Hlo
    generalize (entAt nd.ents i).1 = y at *
    by_cases y0 : y = []
    · subst y0
      have e : hi2 = high := by rw [Hhs.out, if_neg (by simp)]
      subst e
      go_wp2_with fail
      all_goals go_end0
      all_goals exact ⟨rfl, HR.out.1, HR.out.2.1, HR.out.2.2⟩
    · have y1 : (y == []) = false := by simpa using y0
      have y2 : (y != []) = true := by simpa using y0
      have y3 : y.isEmpty = false := by simpa using y0
      by_cases z0 : high = []
      · have e : hi2 = y := by rw [Hhs.out, if_pos ⟨y0, .inl z0⟩]
        subst z0; subst e
        clear y0
        go_wp2_with fail
        all_goals go_end0
        all_goals exact ⟨rfl, (Chg.setCell).blk HR.out.1 hne, Blk.setCell HR.out.2.1, HR.out.2.2.trans (TS.chg HR.out.2.1 hBh Chg.setCell)⟩
      · have z1 : (high == []) = false := by simpa using z0
        have z2 : (high != []) = true := by simpa using z0
        have z3 : high.isEmpty = false := by simpa using z0
        cases hlt : bl y high
        · have hlt2 : Go.Op.bytesLess y high = false := hlt
          have e : hi2 = high := by rw [Hhs.out, if_neg (by rw [hlt]; simp [z0])]
          subst e
          clear y0 z0 hlt
          go_wp2_with fail
          all_goals go_end0
          all_goals exact ⟨rfl, HR.out.1, HR.out.2.1, HR.out.2.2⟩
        · have hlt2 : Go.Op.bytesLess y high = true := hlt
          have e : hi2 = y := by rw [Hhs.out, if_pos ⟨y0, .inr hlt⟩]
          subst e
          clear y0 z0 hlt
          go_wp2_with fail
          all_goals go_end0
          all_goals exact ⟨rfl, (Chg.setCell).blk HR.out.1 hne, Blk.setCell HR.out.2.1, HR.out.2.2.trans (TS.chg HR.out.2.1 hBh Chg.setCell)⟩
end Go.Proofs.YtolmoknjmdmpgaaGreat
/- The walk of package index's Bounds. -/
namespace Go.Proofs.YtolmoknjmdmpgaaGreat
open Go.RowKit Dsd
theorem bounds_visit (B lb hb : Nat) (m : List (List UInt8)) (h : Hd) (d : DS) (key : List UInt8) (hz : door22 h d = 0) (hne : lb ≠ hb) (hBl : B ≤ lb) (hBh : B ≤ hb) : Visit 32 #[.pointer (some ⟨lb, 0, none⟩), .pointer (some ⟨hb, 0, none⟩)] (TS B) m h d key
    (fun j W => Blk W lb (.cells #[.string ⟨(lowTo m h d key j).toArray⟩] 9) ∧ Blk W hb (.cells #[.string ⟨(highTo m h d key j).toArray⟩] 9)) where
  call := fun args W => by simp [callFunc, Tryz.func32]; kernel_rfl
  ext := fun j W W' e ⟨h1, h2⟩ => ⟨e.blk _ _ h1, e.blk _ _ h2⟩
  trans := fun _ _ _ a b => a.trans b
  ofExt := fun _ _ e => TS.ofExt e
  size := fun W W' a => a.1
  keep := fun W W' b cs t a ht hb => a.2.2 b cs t (by rcases ht with rfl | rfl | rfl <;> decide) hb
  go := fun j hj her W q c B0 ⟨h1, h2⟩ ho => by
    have he : erAt m h d key j = 0 := erTo_zero her (Nat.lt_succ_self j)
    have hsp : NSpec (ndAt m h d key j) := (load_spec he).1
    have hne2 : (ndAt m h d key j).ents ≠ [] := by have := hsp.l1; intro h9; rw [h9] at this; simp at this
    have hl := hsp.l2
    refine (Bounds1_any B lb hb (lowTo m h d key j) (highTo m h d key j) (ndAt m h d key j) q c (findNd (ndAt m h d key j).ents key) W h1 h2 hne hBl hBh ho (find_lt key hne2) (by omega)).mono ?_
    rintro e W' ⟨rfl, hL, hH, hT⟩
    exact ⟨rfl, ⟨hL, hH⟩, hT⟩
/-- What Bounds hands back. -/
def BndOut (m : List (List UInt8)) (h : Hd) (d : DS) (key : List UInt8) (w : World) (e : Ending) (w' : World) : Prop := Ext w w' ∧ e = .returned (.tuple #[.string ⟨(lowD m h d key).toArray⟩, .string ⟨(highD m h d key).toArray⟩, .int .i64 (locE m h d key)])
theorem bnd_no {m : List (List UInt8)} {h : Hd} {d : DS} {key : List UInt8} {w w' : World} {e : Ending} {c : Int} (hc : locE m h d key = c) (h0 : c ≠ 0) (h1 : Ext w w') (h2 : e = .returned (.tuple #[.string ⟨#[]⟩, .string ⟨#[]⟩, .int .i64 c])) : BndOut m h d key w e w' := by
  have hl : lowD m h d key = [] := by unfold lowD; rw [if_neg (by rw [hc]; exact h0)]
  have hl2 : highD m h d key = [] := by unfold highD; rw [if_neg (by rw [hc]; exact h0)]
  unfold BndOut
  rw [hl, hl2, hc]
  exact ⟨h1, h2⟩
theorem bnd_yes {m : List (List UInt8)} {h : Hd} {d : DS} {key : List UInt8} {w w' : World} {e : Ending} (hz : door22 h d = 0) (hc : erTo m h d key h.height.toNat = 0) (h1 : Ext w w') (h2 : e = .returned (.tuple #[.string ⟨(lowTo m h d key h.height.toNat).toArray⟩, .string ⟨(highTo m h d key h.height.toNat).toArray⟩, .int .i64 0])) : BndOut m h d key w e w' := by
  have hlE : locE m h d key = erTo m h d key h.height.toNat := by unfold locE; rw [if_neg (by rw [hz]; simp)]
  have hl : lowD m h d key = lowTo m h d key h.height.toNat := by unfold lowD; rw [if_pos (by rw [hlE]; exact hc)]
  have hl2 : highD m h d key = highTo m h d key h.height.toNat := by unfold highD; rw [if_pos (by rw [hlE]; exact hc)]
  unfold BndOut
  rw [hl, hl2, hlE, hc]
  exact ⟨h1, h2⟩
set_option maxRecDepth 100000 in
set_option maxHeartbeats 4000000 in
theorem Bounds22_any (p : Option Addr) (cap n : Nat) (m : List (List UInt8)) (h : Hd) (d : DS) (key : List UInt8) (w : World) (hs : Strs w p m) (hn : m.length = n) (hm : Small m) :
    Calls Tryz.prog 11 #[.iface 29 (.slice p n cap), .agg #[.int .i64 h.applied, .int .i64 h.count, .int .i64 h.fin, .int .i64 h.root, .int .i64 h.height, .int .i64 h.splits, .int .i64 h.areas], .agg #[.int .i64 d.id, .int .i64 d.org, .int .i64 d.format, .int .i64 d.length, .int .i64 d.block, .int .i64 d.keyAt, .int .i64 d.keyLength, .int .i64 d.interval, .int .i64 d.area, .int .i64 d.freeInterval, .int .i64 d.freeArea, .int .i64 d.base, .int .i64 d.altAt, .int .i64 d.altLength, .bool d.unique, .int .i64 d.cls, .string ⟨d.volume.toArray⟩, .string ⟨d.owner.toArray⟩, .int .i64 d.created, .int .i64 d.expires, .bool d.archived], .string ⟨key.toArray⟩] w (BndOut m h d key w) := by
  have hdd := hd_ds w h d
  by_cases hz : door22 h d = 0
  · have hlE : locE m h d key = erTo m h d key h.height.toNat := by unfold locE; rw [if_neg (by rw [hz]; simp)]
    have HNo := Lib.hid (fun e w' => bnd_no (m := m) (h := h) (d := d) (key := key) (w := w) (w' := w') (e := e) hlE)
    have HYes := Lib.hid (fun e w' => bnd_yes (m := m) (h := h) (d := d) (key := key) (w := w) (w' := w') (e := e) hz)
    have HD := Lib.hid (fun lb hb hne hBl hBh W h0 hs => descend_any 32 #[.pointer (some ⟨lb, 0, none⟩), .pointer (some ⟨hb, 0, none⟩)] (TS w.heap.size) p cap n m h d key _ (bounds_visit w.heap.size lb hb m h d key hz hne hBl hBh) hz W h0 hs hn hm)
    have Hs := Lib.hid hs
    have HOp : Hid (∀ W, Calls Tryz.prog 26 #[.iface 29 (.slice p n cap), .agg #[.int .i64 h.applied, .int .i64 h.count, .int .i64 h.fin, .int .i64 h.root, .int .i64 h.height, .int .i64 h.splits, .int .i64 h.areas], .agg #[.int .i64 d.id, .int .i64 d.org, .int .i64 d.format, .int .i64 d.length, .int .i64 d.block, .int .i64 d.keyAt, .int .i64 d.keyLength, .int .i64 d.interval, .int .i64 d.area, .int .i64 d.freeInterval, .int .i64 d.freeArea, .int .i64 d.base, .int .i64 d.altAt, .int .i64 d.altLength, .bool d.unique, .int .i64 d.cls, .string ⟨d.volume.toArray⟩, .string ⟨d.owner.toArray⟩, .int .i64 d.created, .int .i64 d.expires, .bool d.archived]] W fun e w' => e = .returned (.tuple #[.agg (trC (.slice p n cap) h d), .int .i64 0]) ∧ Ext W w') := Lib.hid (fun W => (open22_any p n cap h d W).mono (fun e w' ⟨h1, h2⟩ => by
      rcases h2 with ⟨_, h3⟩ | ⟨h3, _⟩
      · exact ⟨h3, h1⟩
      · rw [hz] at h3; cases h3))
    clear hs hz hlE
    generalize BndOut m h d key w = OUT at *
    go_enter Tryz.func11, Tryz.ntmps11
    go_upto_region 1 with (fail)
    refine wp_name (fun w0 => Ext w w0 ∧ HdAt w0 w.heap.size h ∧ DsAt w0 (w.heap.size + 1) d) hdd ?_
    clear hdd
    rintro w0 ⟨he0, hb1, hb2⟩
    go_upto_region 5 with (first
      | ((with_reducible (show wpList _ _ _ (⟨some 17, _, _, _, _, _⟩ :: _) _ _)); refine wpList_hd (o := ⟨some 17, _, _, _, _, _⟩) rfl (.tmp 5) rfl _ rfl h hb1 ?_)
      | ((with_reducible (show wpList _ _ _ (⟨some 18, _, _, _, _, _⟩ :: _) _ _)); refine wpList_ds (o := ⟨some 18, _, _, _, _, _⟩) rfl (.tmp 6) rfl _ rfl d hb2 ?_)
      | (go_at_call 26; refine (HOp.out _).mono ?_; rintro e w1 ⟨rfl, he1⟩)
      | (refine wpList_put rfl 70 (.tmp 11) (.tmp 20) rfl _ (trC (.slice p n cap) h d) rfl rfl _ _ (Blk.new w1 _) trSize rfl (tr_one p n cap h d) ?_; intro w3 ht3 hc3; have hx3 := hc3.ext (Ext.alloc _ _) (Nat.le_refl _)))
    have hX3 : Ext w w3 := (he0.trans he1).trans hx3
    have hxA := (Ext.alloc w3 (.cells #[.string ⟨#[]⟩] 9)).trans (Ext.alloc _ (.cells #[.string ⟨#[]⟩] 9))
    refine wp_name (fun w4 => Ext w w4 ∧ Blk w4 w1.heap.size (.cells (trC (.slice p n cap) h d) 70) ∧ (Blk w4 w3.heap.size (.cells #[.string ⟨(lowTo m h d key 0).toArray⟩] 9) ∧ Blk w4 (w3.heap.size + 1) (.cells #[.string ⟨(highTo m h d key 0).toArray⟩] 9)) ∧ w.heap.size ≤ w3.heap.size) ⟨hX3.trans hxA, hxA.blk _ _ ht3, ⟨Blk.alloc (Blk.new w3 _) _, Blk.new1 _ _ _ (by simp)⟩, hX3.size⟩ ?_
    have HDl := Lib.hid (HD.out w3.heap.size (w3.heap.size + 1) (by omega))
    clear hX3 hxA ht3 hc3 hx3 he1 he0 hb1 hb2 HD
    generalize w3.heap.size = lb at *
    generalize hhb : lb + 1 = hb at *
    generalize w1.heap.size = tb
    rintro w4 ⟨hx4, ht4, hS4, hlb⟩
    have HDs := Lib.hid (HDl.out hlb (by omega) w4 hS4 (fun W hT => Hs.out.ext (Ext.trans' hx4 (hT.2.1 hx4.size))))
    by_cases hE : erTo m h d key h.height.toNat = 0
    · have HY := Lib.hid (fun e w' => HYes.out e w' hE)
      rw [hE] at HDs
      clear HNo HYes hE HDl hS4 hhb
      generalize lowTo m h d key h.height.toNat = lo at *
      generalize highTo m h d key h.height.toNat = hi at *
      go_upto_region 8 with (first
        | ((with_reducible (show wpList _ _ _ (⟨some 25, _, _, _, _, _⟩ :: _) _ _)); refine wpList_row (o := ⟨some 25, _, _, _, _, _⟩) rfl 70 (.tmp 11) rfl _ rfl _ _ _ ht4 trDesc rfl trSize ?_)
        | (go_at_call 27; refine HDs.out.mono ?_; rintro e w5 ⟨rfl, hT5, hS5⟩))
      obtain ⟨hp5, hq5⟩ := hS5 (by trivial)
      have k5 := Blk.val hp5 0 _ rfl
      have l5 := Blk.lt hp5
      have k6 := Blk.val hq5 0 _ rfl
      have l6 := Blk.lt hq5
      go_quiet (fail)
      go_wp2_with fail
      have hx5 := Ext.trans' hx4 (hT5.2.1 hx4.size)
      go_ret3
      exact HY.out _ _ (by first | exact hx5.trans (Ext.drewN _ _) | exact hx5.trans (Ext.drew _) | exact hx5) rfl
    · have HN := Lib.hid (fun e w' => HNo.out e w' hE)
      have hei : (erTo m h d key h.height.toNat != 0) = true := by simpa using hE
      clear HNo HYes hE HDl hS4 hhb
      generalize erTo m h d key h.height.toNat = er at *
      go_wp2_with (first
        | ((with_reducible (show wpList _ _ _ (⟨some 25, _, _, _, _, _⟩ :: _) _ _)); refine wpList_row (o := ⟨some 25, _, _, _, _, _⟩) rfl 70 (.tmp 11) rfl _ rfl _ _ _ ht4 trDesc rfl trSize ?_)
        | (go_at_call 27; refine HDs.out.mono ?_; rintro e w5 ⟨rfl, hT5, _⟩))
      go_ret3
      exact HN.out _ _ (Ext.trans' hx4 (hT5.2.1 hx4.size)) rfl
  · have hz1 : door22 h d = 1 := by unfold door22 at hz ⊢; split at hz <;> rename_i hq; exact absurd rfl hz; rw [if_neg hq]
    have hlE : locE m h d key = 1 := by unfold locE; rw [if_pos hz]
    have HN := Lib.hid (fun e w' => bnd_no (m := m) (h := h) (d := d) (key := key) (w := w) (w' := w') (e := e) hlE (by decide))
    have HOp : Hid (∀ W, Calls Tryz.prog 26 #[.iface 29 (.slice p n cap), .agg #[.int .i64 h.applied, .int .i64 h.count, .int .i64 h.fin, .int .i64 h.root, .int .i64 h.height, .int .i64 h.splits, .int .i64 h.areas], .agg #[.int .i64 d.id, .int .i64 d.org, .int .i64 d.format, .int .i64 d.length, .int .i64 d.block, .int .i64 d.keyAt, .int .i64 d.keyLength, .int .i64 d.interval, .int .i64 d.area, .int .i64 d.freeInterval, .int .i64 d.freeArea, .int .i64 d.base, .int .i64 d.altAt, .int .i64 d.altLength, .bool d.unique, .int .i64 d.cls, .string ⟨d.volume.toArray⟩, .string ⟨d.owner.toArray⟩, .int .i64 d.created, .int .i64 d.expires, .bool d.archived]] W fun e w' => e = .returned (.tuple #[.agg trZ, .int .i64 1]) ∧ Ext W w') := Lib.hid (fun W => (open22_any p n cap h d W).mono (fun e w' ⟨h1, h2⟩ => by
      rcases h2 with ⟨h3, _⟩ | ⟨_, h3⟩
      · exact absurd h3 hz
      · exact ⟨h3, h1⟩))
    clear hz hz1 hlE hs
    generalize BndOut m h d key w = OUT at *
    go_enter Tryz.func11, Tryz.ntmps11
    go_upto_region 1 with (fail)
    refine wp_name (fun w0 => Ext w w0 ∧ HdAt w0 w.heap.size h ∧ DsAt w0 (w.heap.size + 1) d) hdd ?_
    clear hdd
    rintro w0 ⟨he0, hb1, hb2⟩
    go_wp2_with (first
      | ((with_reducible (show wpList _ _ _ (⟨some 17, _, _, _, _, _⟩ :: _) _ _)); refine wpList_hd (o := ⟨some 17, _, _, _, _, _⟩) rfl (.tmp 5) rfl _ rfl h hb1 ?_)
      | ((with_reducible (show wpList _ _ _ (⟨some 18, _, _, _, _, _⟩ :: _) _ _)); refine wpList_ds (o := ⟨some 18, _, _, _, _, _⟩) rfl (.tmp 6) rfl _ rfl d hb2 ?_)
      | (go_at_call 26; refine (HOp.out _).mono ?_; rintro e w1 ⟨rfl, he1⟩)
      | (refine wpList_put rfl 70 (.tmp 11) (.tmp 20) rfl _ trZ rfl rfl _ _ (Blk.new w1 _) trSize rfl trZ_one ?_; intro w3 ht3 hc3; have hx3 := hc3.ext (Ext.alloc _ _) (Nat.le_refl _)))
    go_ret3
    exact HN.out _ _ ((he0.trans he1).trans hx3) rfl
end Go.Proofs.YtolmoknjmdmpgaaGreat
