/- The walk of the program's Append. -/
import Derived.Test.YtkhlglkipeoalaaDoorX8
import Derived.RegionTactic
import Derived.BigRegion
import Derived.Deep.RegionHeld3
set_option linter.unusedSimpArgs false
set_option linter.unusedVariables false
namespace Go.Proofs.YtkhlglkipeoalaaDoor
open Go.RowKit Dsd

/-- A slice of page writes that is read. -/
def Wrts (w : World) (p : Option Addr) (L : List (Int × List UInt8)) : Prop :=
  L = [] ∨ ∃ b off, p = some ⟨b, off, none⟩ ∧ (b < w.heap.size ∧ ∃ cs, Blk w b (.cells cs 55)) ∧ ∀ i, i < L.length → w.cell? ⟨b, off + i * 2, none⟩ = some (.int .i64 (L.getD i (0, [])).1) ∧ w.cell? ⟨b, off + i * 2 + 1, none⟩ = some (.string ⟨(L.getD i (0, [])).2.toArray⟩)
theorem Wrts.ext {w w' : World} {p : Option Addr} {L : List (Int × List UInt8)} (h : Wrts w p L) (e : Ext w w') : Wrts w' p L := by
  rcases h with h | ⟨b, off, hp, ⟨hb, cs, hbk⟩, hc⟩
  · exact .inl h
  · exact .inr ⟨b, off, hp, ⟨Nat.lt_of_lt_of_le hb e.size, cs, e.blk _ _ hbk⟩, fun i hi => ⟨(e.cell b _ hb).trans (hc i hi).1, (e.cell b _ hb).trans (hc i hi).2⟩⟩
theorem wrts_one {w : World} {b : Nat} {k : Int} {s : List UInt8} (h : Blk w b (.cells #[.int .i64 k, .string ⟨s.toArray⟩] 55)) : Wrts w (some ⟨b, 0, none⟩) [(k, s)] := by
  refine .inr ⟨b, 0, rfl, ⟨Blk.lt h, _, h⟩, fun i hi => ?_⟩
  obtain rfl : i = 0 := by simp at hi; exact hi
  exact ⟨Blk.val h 0 _ rfl, Blk.val h 1 _ rfl⟩
/-- A header's block, whatever it holds. -/
def KS (b : Nat) (w : World) : Prop := ∃ old : Array Value, Blk w b (.cells old 28) ∧ old.size = 7
theorem KS.ext {b : Nat} {w w' : World} (h : KS b w) (e : Ext w w') : KS b w' := by obtain ⟨o, h1, h2⟩ := h; exact ⟨o, e.blk _ _ h1, h2⟩
theorem Chg.cell {g : Nat} {w w' : World} (c : Chg g w w') (b i : Nat) (hne : b ≠ g) : w'.cell? ⟨b, i, none⟩ = w.cell? ⟨b, i, none⟩ := World.cell?_of_block (c.block b hne)
theorem wp_putE {P : Program} {o : Oper} {a : Act} {w : World} {K : Act → World → Prop} {Q : Exit → Act → World → Prop} (ty : TypeId) (x y : Operand) (ho : o.op = .store ty x y)
    (g : Nat) (cells : Array Value) (hx : a.eval x = .pointer (some ⟨g, 0, none⟩)) (hy : a.eval y = .agg cells) (hb : KS g w) (hi : (P.info? ty).map (·.size) = some cells.size) (h7 : cells.size = 7) (h1 : cells.all (·.oneCell') = true)
    (h : ∀ w', Blk w' g (.cells cells 28) → Chg g w w' → K (a.put o.dst undef) w') : o.wp P a w K Q := by
  obtain ⟨old, h2, h3⟩ := hb
  exact wp_store_row ty x y ho g cells hx hy _ old h2 hi (h3.trans h7.symm) h1 (h _ (Blk.setRow h2) Chg.setRow)
theorem hd_set7 {w : World} {b : Nat} (h : Blk w b (.cells #[.int .i64 0, .int .i64 0, .int .i64 0, .int .i64 0, .int .i64 0, .int .i64 0, .int .i64 0] 28)) (H : Hd) : Blk (((((((w.setCell ⟨b, 0, none⟩ (.int .i64 H.applied)).setCell ⟨b, 1, none⟩ (.int .i64 H.count)).setCell ⟨b, 2, none⟩ (.int .i64 H.fin)).setCell ⟨b, 3, none⟩ (.int .i64 H.root)).setCell ⟨b, 4, none⟩ (.int .i64 H.height)).setCell ⟨b, 5, none⟩ (.int .i64 H.splits)).setCell ⟨b, 6, none⟩ (.int .i64 H.areas)) b (.cells #[.int .i64 H.applied, .int .i64 H.count, .int .i64 H.fin, .int .i64 H.root, .int .i64 H.height, .int .i64 H.splits, .int .i64 H.areas] 28) ∧ Chg b w (((((((w.setCell ⟨b, 0, none⟩ (.int .i64 H.applied)).setCell ⟨b, 1, none⟩ (.int .i64 H.count)).setCell ⟨b, 2, none⟩ (.int .i64 H.fin)).setCell ⟨b, 3, none⟩ (.int .i64 H.root)).setCell ⟨b, 4, none⟩ (.int .i64 H.height)).setCell ⟨b, 5, none⟩ (.int .i64 H.splits)).setCell ⟨b, 6, none⟩ (.int .i64 H.areas)) :=
  ⟨(Blk.setCell (i := 6) (v := .int .i64 H.areas) (Blk.setCell (i := 5) (v := .int .i64 H.splits) (Blk.setCell (i := 4) (v := .int .i64 H.height) (Blk.setCell (i := 3) (v := .int .i64 H.root) (Blk.setCell (i := 2) (v := .int .i64 H.fin) (Blk.setCell (i := 1) (v := .int .i64 H.count) (Blk.setCell (i := 0) (v := .int .i64 H.applied) h))))))), ((((((Chg.setCell).trans Chg.setCell).trans Chg.setCell).trans Chg.setCell).trans Chg.setCell).trans Chg.setCell).trans Chg.setCell⟩
/-- What Append hands back. -/
def AppOut (m : List (List UInt8)) (h : Hd) (d : DS) (r : List UInt8) (w : World) (e : Ending) (w' : World) : Prop :=
  Ext w w' ∧ ∃ q k c, e = .returned (.tuple #[.agg #[.int .i64 (appendOf m h d r).h.applied, .int .i64 (appendOf m h d r).h.count, .int .i64 (appendOf m h d r).h.fin, .int .i64 (appendOf m h d r).h.root, .int .i64 (appendOf m h d r).h.height, .int .i64 (appendOf m h d r).h.splits, .int .i64 (appendOf m h d r).h.areas], .slice q k c, .int .i64 (appendOf m h d r).at', .int .i64 (appendOf m h d r).e]) ∧ k = (appendOf m h d r).w.length ∧ Wrts w' q (appendOf m h d r).w
theorem appOut_no {m : List (List UInt8)} {h : Hd} {d : DS} {r : List UInt8} {w w' : World} {c : Int} (he : Ext w w') (hr : appendOf m h d r = .err c) :
    AppOut m h d r w (.returned (.tuple #[.agg #[.int .i64 0, .int .i64 0, .int .i64 0, .int .i64 0, .int .i64 0, .int .i64 0, .int .i64 0], .slice none 0 0, .int .i64 0, .int .i64 c])) w' := by
  refine ⟨he, none, 0, 0, ?_⟩
  rw [hr]
  exact ⟨rfl, rfl, .inl rfl⟩
theorem appOut_yes {m : List (List UInt8)} {h h' : Hd} {d : DS} {r s : List UInt8} {w w' : World} {k a : Int} {q : Option Addr} (he : Ext w w') (hr : appendOf m h d r = ⟨h', [(k, s)], a, 0⟩) (hq : Wrts w' q [(k, s)]) :
    AppOut m h d r w (.returned (.tuple #[.agg #[.int .i64 h'.applied, .int .i64 h'.count, .int .i64 h'.fin, .int .i64 h'.root, .int .i64 h'.height, .int .i64 h'.splits, .int .i64 h'.areas], .slice q 1 1, .int .i64 a, .int .i64 0])) w' := by
  refine ⟨he, q, 1, 1, ?_⟩
  rw [hr]
  exact ⟨rfl, rfl, hq⟩
theorem Blk.below {w w' : World} {B b : Nat} {o : Obj} (h : Blk w b o) (k : Below B w w') (hb : b < B) : Blk w' b o := (k.block b hb).trans h
theorem hd_one (h : Hd) : (#[.int .i64 h.applied, .int .i64 h.count, .int .i64 h.fin, .int .i64 h.root, .int .i64 h.height, .int .i64 h.splits, .int .i64 h.areas] : Array Value).all (·.oneCell') = true := by simp [Value.oneCell']

theorem addOf_two (size fin : Int) (L : List (List UInt8)) (r : List UInt8) (hf : 0 ≤ fin ∧ fin ≤ 16777216) (hs : Small L) (hl : L.length ≤ 600) (hr : r.length ≤ 1000000) : Small (addOf size L fin r).1 ∧ 0 ≤ (addOf size L fin r).2 ∧ (addOf size L fin r).2 ≤ 16777217 := by
  unfold addOf
  split
  · exact ⟨⟨by simp, by simp; exact hr⟩, by simp only; omega, by simp only; omega⟩
  · refine ⟨⟨by simp; omega, fun s h => ?_⟩, by simp only; omega, by simp only; omega⟩
    rw [List.mem_append] at h
    rcases h with h | h
    · exact hs.2 s h
    · simp at h; subst h; exact hr
theorem loadOf_len (m : List (List UInt8)) (size page : Int) : (loadOf m size page).1.length ≤ 600 := by
  by_cases h : (loadOf m size page).2 = 0
  · obtain ⟨_, he, _⟩ := loadOf_ok h
    obtain ⟨h1, h2, h3⟩ := encErr_zero he.1
    have h4 := allowed_count h2
    have h5 : sumLen (loadOf m size page).1 ≤ sizeL (loadOf m size page).1 := by unfold sizeL; omega
    obtain ⟨k, hk, hk2⟩ := isSize_nat h1
    omega
  · rw [loadOf_bad h]; simp
theorem endOfC_len (m : List (List UInt8)) (size fin : Int) : (endOfC m size fin).1.length ≤ 600 := by
  unfold endOfC
  split
  · simp
  · exact loadOf_len m size fin

set_option maxRecDepth 100000 in
set_option maxHeartbeats 4000000 in
theorem Append_any (p : Option Addr) (n cap : Nat) (m : List (List UInt8)) (h : Hd) (d : DS) (r : List UInt8) (w : World) (hs : Strs w p m) (hn : m.length = n) (hm : Small m) (hr : r.length ≤ 1000000) :
    Calls Tryd.prog 12 #[.iface 29 (.slice p n cap), .agg #[.int .i64 h.applied, .int .i64 h.count, .int .i64 h.fin, .int .i64 h.root, .int .i64 h.height, .int .i64 h.splits, .int .i64 h.areas], .agg #[.int .i64 d.id, .int .i64 d.org, .int .i64 d.format, .int .i64 d.length, .int .i64 d.block, .int .i64 d.keyAt, .int .i64 d.keyLength, .int .i64 d.interval, .int .i64 d.area, .int .i64 d.freeInterval, .int .i64 d.freeArea, .int .i64 d.base, .int .i64 d.altAt, .int .i64 d.altLength, .bool d.unique, .int .i64 d.cls, .string ⟨d.volume.toArray⟩, .string ⟨d.owner.toArray⟩, .int .i64 d.created, .int .i64 d.expires, .bool d.archived], .string ⟨r.toArray⟩] w (AppOut m h d r w) := by
  have Hs := Lib.hid hs
  have Hop := Lib.hid (open_any p n cap h d)
  have Hte := Lib.hid (fun w hs => theEnd_any p n cap m h d w hs hn hm)
  have Hal := Lib.hid (allowed_cl (.iface 29 (.slice p n cap)) h d r.length)
  clear hs
  go_enter Tryd.func12, Tryd.ntmps12
  go_upto_region 1 with (fail)
  refine wp_name (fun w0 => Ext w w0 ∧ HdAt w0 w.heap.size h ∧ DsAt w0 (w.heap.size + 1) d ∧ Blk w0 (w.heap.size + 1 + 1) (.cells #[.int .i64 0, .int .i64 0, .int .i64 0, .int .i64 0, .int .i64 0, .int .i64 0, .int .i64 0] 28)) (hd_ds_cl w h d _ _) ?_
  rintro w0 ⟨he0, hb1, hb2, hb3⟩
  go_wp2_with (first | (refine wpList_ds rfl (.tmp 6) rfl _ rfl d hb2 ?_) | (refine wpList_hd rfl (.tmp 5) rfl _ rfl h hb1 ?_))
  refine (Hop.out _).mono ?_
  rintro e w1 ⟨he1, ⟨hdo, rfl⟩ | ⟨hdo, rfl⟩⟩
  · obtain ⟨hva, hpl, hor⟩ := door_zero hdo
    obtain ⟨v1, v2, v3, v4, v5, v6⟩ := valid_spec hva
    obtain ⟨p1, p2, p3, p4⟩ := plain_spec hpl
    have HD := Lib.hid hdo
    have hiv : 0 ≤ d.interval ∧ d.interval ≤ 512 := by rcases isSize_spec v3 with h | h | h <;> omega
    obtain ⟨hi0, hi1⟩ := hiv
    have hb1 := hb1.ext he1
    have hb2 := hb2.ext he1
    have hb3 := he1.blk _ _ hb3
    clear hdo hva hpl hor v1 v2 v3 v6
    by_cases hlen : 1 ≤ r.length ∧ (r.length : Int) ≤ d.length
    · have hlI : (decide ((1 : Int) ≤ r.length) && decide ((r.length : Int) ≤ d.length)) = true := by simp; omega
      have HLI := Lib.hid hlI
      have HLN := Lib.hid hlen
      clear hlI
      go_wp2_with (first | (refine wpList_put rfl 77 (.tmp 12) (.tmp 23) rfl _ #[.iface 29 (.slice p n cap), .int .i64 h.applied, .int .i64 h.count, .int .i64 h.fin, .int .i64 h.root, .int .i64 h.height, .int .i64 h.splits, .int .i64 h.areas, .int .i64 d.id, .int .i64 d.org, .int .i64 d.format, .int .i64 d.length, .int .i64 d.block, .int .i64 d.keyAt, .int .i64 d.keyLength, .int .i64 d.interval, .int .i64 d.area, .int .i64 d.freeInterval, .int .i64 d.freeArea, .int .i64 d.base, .int .i64 d.altAt, .int .i64 d.altLength, .bool d.unique, .int .i64 d.cls, .string ⟨d.volume.toArray⟩, .string ⟨d.owner.toArray⟩, .int .i64 d.created, .int .i64 d.expires, .bool d.archived] rfl rfl _ _ (Blk.new w1 _) clSize rfl (cl_one _ rfl h d) ?_; intro w2 hcl hc2; have he2 : Ext w1 w2 := hc2.ext (Ext.alloc _ _) (Nat.le_refl _); have hb1 := hb1.ext he2; have hb2 := hb2.ext he2; have hb3 := he2.blk _ _ hb3) | (refine wpList_row rfl 77 (.tmp 12) rfl _ rfl _ _ _ hcl clDesc rfl clSize ?_) | (go_at_call 36; refine (Hal.out _).mono ?_; rw [HLI.out]; rintro e w3 ⟨rfl, he3⟩; have hcl := he3.blk _ _ hcl; have hb1 := hb1.ext he3; have hb2 := hb2.ext he3; have hb3 := he3.blk _ _ hb3))
      refine (Hte.out _ (Hs.out.ext (((he0.trans he1).trans he2).trans he3))).mono ?_
      rintro e w4 ⟨he4, q4, k4, c4, rfl, hk4, hown4, hsm4⟩
      have hl4 := endOfC_len m d.interval h.fin
      have hb1 := hb1.ext he4
      have hb2 := hb2.ext he4
      have hb3 := he4.blk _ _ hb3
      have HE := Lib.hid (show endOfC m d.interval h.fin = ((endOfC m d.interval h.fin).1, (endOfC m d.interval h.fin).2) from rfl)
      generalize (endOfC m d.interval h.fin).1 = L at *
      generalize (endOfC m d.interval h.fin).2 = x at *
      obtain rfl : L.length = k4 := hk4.symm
      have Hown4 := Lib.hid hown4
      have Hsm4 := Lib.hid hsm4
      clear hown4 hsm4
      have hz34 := he4.size
      have hzw : w.heap.size + 1 + 1 < w3.heap.size := by have := Blk.lt (he3.blk _ _ (he2.blk _ _ (he1.blk _ _ ‹Blk w0 (w.heap.size + 1 + 1) _›))); exact this
      by_cases hx : x = 0
      · subst hx
        have hA2 := addOf_two d.interval h.fin L r ⟨p3, p4⟩ Hsm4.out hl4 hr
        have HR : Hid (appendOf m h d r = ⟨{ h with count := h.count + 1, fin := (addOf d.interval L h.fin r).2 }, [((addOf d.interval L h.fin r).2, encStr d.interval (addOf d.interval L h.fin r).1)], addAt d.interval L h.fin r, 0⟩) := Lib.hid (by
          unfold appendOf; rw [if_neg (by simp [HD.out]), if_neg (by have := HLN.out; omega), HE.out, if_neg (by simp)])
        have Had := Lib.hid (fun W hx ho => add_any w3.heap.size w4.heap.size p n cap h d (.slice q4 L.length c4) L r hz34 W hx ho Hsm4.out hr hl4 p3 (by omega) p1 (by omega) hi0 hi1)
        clear hlen
        go_wp2_with (first | (refine wpList_put rfl 82 (.tmp 14) (.tmp 38) rfl _ #[.iface 29 (.slice p n cap), .int .i64 h.applied, .int .i64 h.count, .int .i64 h.fin, .int .i64 h.root, .int .i64 h.height, .int .i64 h.splits, .int .i64 h.areas, .int .i64 d.id, .int .i64 d.org, .int .i64 d.format, .int .i64 d.length, .int .i64 d.block, .int .i64 d.keyAt, .int .i64 d.keyLength, .int .i64 d.interval, .int .i64 d.area, .int .i64 d.freeInterval, .int .i64 d.freeArea, .int .i64 d.base, .int .i64 d.altAt, .int .i64 d.altLength, .bool d.unique, .int .i64 d.cls, .string ⟨d.volume.toArray⟩, .string ⟨d.owner.toArray⟩, .int .i64 d.created, .int .i64 d.expires, .bool d.archived, .slice q4 L.length c4] rfl rfl _ _ (Blk.new w4 _) enSize rfl (en_one p n cap h d q4 L.length c4) ?_; intro w5 hen hc5; have he5 : Ext w4 w5 := hc5.ext (Ext.alloc _ _) (Nat.le_refl _); have hb2 := hb2.ext he5; have hb3 := he5.blk _ _ hb3))
        refine (Had.out _ hen (own_ext Hown4.out he5)).mono ?_
        rintro e w6 ⟨rfl, hb6, _, v6, hx6, hown6⟩
        have hb2 : DsAt w6 (w.heap.size + 1) d := Blk.below hb2 hb6 (by omega)
        have hb3 := Blk.below hb3 hb6 (by omega)
        have hE5 : Ext w w5 := ((((he0.trans he1).trans he2).trans he3).trans he4).trans he5
        have hE6 : Ext w w6 := Ext.trans' hE5 (Below.mono hb6 (by omega))
        have hxb : w4.heap.size < w6.heap.size := Blk.lt hx6
        generalize addAt d.interval L h.fin r = AT at *
        generalize addOf d.interval L h.fin r = A at *
        obtain ⟨L6, F6⟩ := A
        obtain ⟨hs6, hF0, hF1⟩ := hA2
        simp only at hs6 hF0 hF1 hown6 hx6
        obtain ⟨q6, k6, rfl, hq6, hk61, hk62⟩ := own_strs2 hown6
        have hen6 := Encode_any q6 k6 L6.length L6 d.interval
        generalize encStr d.interval L6 = es at *
        generalize encErr d.interval L6 = ee at *
        have Hen6 := Lib.hid hen6
        have Hq6 := Lib.hid hq6
        have Hs6 := Lib.hid hs6
        have Hx6 := Lib.hid hx6
        have d7 : w6.cell? ⟨w.heap.size + 1, 7, none⟩ = some (.int .i64 d.interval) := Blk.val hb2 7 _ rfl
        have x29 : w6.cell? ⟨w4.heap.size, 29, none⟩ = some (.slice q6 L6.length k6) := Blk.val hx6 29 _ rfl
        clear hen6 hq6 hs6 hown6 hx6
        go_wp2_with (first | (go_at_call 39; go_must (refine (Hen6.out _ Hq6.out (by trivial) hk61 hk62 Hs6.out).mono ?_; rintro e w7 ⟨rfl, he7⟩)))
        have hx7 := Hx6.out.ext he7
        have hb3 := he7.blk _ _ hb3
        obtain ⟨H, hH⟩ : ∃ H : Hd, H = { h with count := h.count + 1, fin := F6 } := ⟨_, rfl⟩
        have HR2 : Hid (appendOf m h d r = ⟨H, [(H.fin, es)], AT, 0⟩) := Lib.hid (by rw [hH]; exact HR.out)
        have hx7' : EnAt w7 w4.heap.size p n cap H d (.slice q6 L6.length k6) := by rw [hH]; exact hx7
        have hks : KS (w.heap.size + 1 + 1) w7 := ⟨_, hb3, rfl⟩
        have hks2 := hks.ext (Ext.drew w7)
        have hne : w4.heap.size ≠ w.heap.size + 1 + 1 := by omega
        have hxb7 : w4.heap.size < w7.heap.size := Blk.lt hx7
        have hbb7 : w.heap.size + 1 + 1 < w7.heap.size := Blk.lt hb3
        have e1 : w7.cell? ⟨w4.heap.size, 1, none⟩ = some (.int .i64 H.applied) := Blk.val hx7' 1 _ rfl
        have e2 : w7.cell? ⟨w4.heap.size, 2, none⟩ = some (.int .i64 H.count) := Blk.val hx7' 2 _ rfl
        have e3 : w7.cell? ⟨w4.heap.size, 3, none⟩ = some (.int .i64 H.fin) := Blk.val hx7' 3 _ rfl
        have e4 : w7.cell? ⟨w4.heap.size, 4, none⟩ = some (.int .i64 H.root) := Blk.val hx7' 4 _ rfl
        have e5 : w7.cell? ⟨w4.heap.size, 5, none⟩ = some (.int .i64 H.height) := Blk.val hx7' 5 _ rfl
        have e6 : w7.cell? ⟨w4.heap.size, 6, none⟩ = some (.int .i64 H.splits) := Blk.val hx7' 6 _ rfl
        have e7 : w7.cell? ⟨w4.heap.size, 7, none⟩ = some (.int .i64 H.areas) := Blk.val hx7' 7 _ rfl
        have z0 : w7.cell? ⟨w.heap.size + 1 + 1, 0, none⟩ = some (.int .i64 0) := Blk.val hb3 0 _ rfl
        have g0 : w7.frozen? ⟨w.heap.size + 1 + 1, 0, none⟩ = false := Blk.free hb3 0
        have z1 : w7.cell? ⟨w.heap.size + 1 + 1, 1, none⟩ = some (.int .i64 0) := Blk.val hb3 1 _ rfl
        have g1 : w7.frozen? ⟨w.heap.size + 1 + 1, 1, none⟩ = false := Blk.free hb3 1
        have z2 : w7.cell? ⟨w.heap.size + 1 + 1, 2, none⟩ = some (.int .i64 0) := Blk.val hb3 2 _ rfl
        have g2 : w7.frozen? ⟨w.heap.size + 1 + 1, 2, none⟩ = false := Blk.free hb3 2
        have z3 : w7.cell? ⟨w.heap.size + 1 + 1, 3, none⟩ = some (.int .i64 0) := Blk.val hb3 3 _ rfl
        have g3 : w7.frozen? ⟨w.heap.size + 1 + 1, 3, none⟩ = false := Blk.free hb3 3
        have z4 : w7.cell? ⟨w.heap.size + 1 + 1, 4, none⟩ = some (.int .i64 0) := Blk.val hb3 4 _ rfl
        have g4 : w7.frozen? ⟨w.heap.size + 1 + 1, 4, none⟩ = false := Blk.free hb3 4
        have z5 : w7.cell? ⟨w.heap.size + 1 + 1, 5, none⟩ = some (.int .i64 0) := Blk.val hb3 5 _ rfl
        have g5 : w7.frozen? ⟨w.heap.size + 1 + 1, 5, none⟩ = false := Blk.free hb3 5
        have z6 : w7.cell? ⟨w.heap.size + 1 + 1, 6, none⟩ = some (.int .i64 0) := Blk.val hb3 6 _ rfl
        have g6 : w7.frozen? ⟨w.heap.size + 1 + 1, 6, none⟩ = false := Blk.free hb3 6
        have hset : ∀ (W : World) (i : Nat) (v : Value) (j : Nat), (W.setCell ⟨w.heap.size + 1 + 1, i, none⟩ v).cell? ⟨w4.heap.size, j, none⟩ = W.cell? ⟨w4.heap.size, j, none⟩ := fun W i v j => World.cell?_of_block (heap_setCell_other W ⟨w.heap.size + 1 + 1, i, none⟩ w4.heap.size v hne)
        have Hb3 := Lib.hid hb3
        have HE7 := Lib.hid (hE6.trans he7)
        clear hx7 hx7' d7 x29 he7 hE6 hb6 hb2 hH hb3 hks hks2
        go_region_held3 (fun w' => w'.cell? ⟨w4.heap.size, 1, none⟩ = some (.int .i64 H.applied) ∧ w'.cell? ⟨w4.heap.size, 2, none⟩ = some (.int .i64 H.count) ∧ w'.cell? ⟨w4.heap.size, 3, none⟩ = some (.int .i64 H.fin) ∧ w'.cell? ⟨w4.heap.size, 4, none⟩ = some (.int .i64 H.root) ∧ w'.cell? ⟨w4.heap.size, 5, none⟩ = some (.int .i64 H.height) ∧ w'.cell? ⟨w4.heap.size, 6, none⟩ = some (.int .i64 H.splits) ∧ w'.cell? ⟨w4.heap.size, 7, none⟩ = some (.int .i64 H.areas))
          (go_keep) (fail)
        all_goals go_wp2_with fail
        all_goals
          obtain ⟨hbF, hcF⟩ := hd_set7 Hb3.out H
          exact bodyPost_ret (results_row3 Tryd.results12 _ _ _ _ _ _ rfl ((Ext.drew _).blk _ _ ((Ext.alloc _ _).blk _ _ hbF)) hdDesc rfl hdSize) rfl (appOut_yes (((hcF.ext HE7.out (by omega)).trans (Ext.alloc _ _)).trans (Ext.drew _)) HR2.out ((wrts_one (Blk.new1 _ _ _ (by simp))).ext (Ext.drew _)))
      · have hxI : (x != 0) = true := by simpa using hx
        have HR : Hid (appendOf m h d r = .err x) := Lib.hid (by unfold appendOf; rw [if_neg (by simp [HD.out]), if_neg (by have := HLN.out; omega), HE.out, if_pos hx])
        clear hlen
        go_wp2_with (first | (refine wpList_put rfl 82 (.tmp 14) (.tmp 38) rfl _ #[.iface 29 (.slice p n cap), .int .i64 h.applied, .int .i64 h.count, .int .i64 h.fin, .int .i64 h.root, .int .i64 h.height, .int .i64 h.splits, .int .i64 h.areas, .int .i64 d.id, .int .i64 d.org, .int .i64 d.format, .int .i64 d.length, .int .i64 d.block, .int .i64 d.keyAt, .int .i64 d.keyLength, .int .i64 d.interval, .int .i64 d.area, .int .i64 d.freeInterval, .int .i64 d.freeArea, .int .i64 d.base, .int .i64 d.altAt, .int .i64 d.altLength, .bool d.unique, .int .i64 d.cls, .string ⟨d.volume.toArray⟩, .string ⟨d.owner.toArray⟩, .int .i64 d.created, .int .i64 d.expires, .bool d.archived, .slice q4 L.length c4] rfl rfl _ _ (Blk.new w4 _) enSize rfl (en_one p n cap h d q4 L.length c4) ?_; intro w5 hen hc5; have he5 : Ext w4 w5 := hc5.ext (Ext.alloc _ _) (Nat.le_refl _); have hb3 := he5.blk _ _ hb3) | (refine wpList_put rfl 28 (.tmp 8) (.tmp 42) rfl _ #[.int .i64 0, .int .i64 0, .int .i64 0, .int .i64 0, .int .i64 0, .int .i64 0, .int .i64 0] rfl rfl _ _ hb3 hdSize rfl (hd_one Hd.zero) ?_; intro w6 hb4 hc6))
        exact bodyPost_ret (results_row3 Tryd.results12 _ _ _ _ _ _ rfl hb4 hdDesc rfl hdSize) rfl (appOut_no (hc6.ext (((((he0.trans he1).trans he2).trans he3).trans he4).trans he5) (by omega)) HR.out)
    · have hlI : (decide ((1 : Int) ≤ r.length) && decide ((r.length : Int) ≤ d.length)) = false := by simp; omega
      have HLI := Lib.hid hlI
      have HR : Hid (appendOf m h d r = .err 2) := Lib.hid (by unfold appendOf; rw [if_neg (by simp [HD.out]), if_pos (by omega)])
      clear hlI hlen
      go_wp2_with (first | (refine wpList_put rfl 77 (.tmp 12) (.tmp 23) rfl _ #[.iface 29 (.slice p n cap), .int .i64 h.applied, .int .i64 h.count, .int .i64 h.fin, .int .i64 h.root, .int .i64 h.height, .int .i64 h.splits, .int .i64 h.areas, .int .i64 d.id, .int .i64 d.org, .int .i64 d.format, .int .i64 d.length, .int .i64 d.block, .int .i64 d.keyAt, .int .i64 d.keyLength, .int .i64 d.interval, .int .i64 d.area, .int .i64 d.freeInterval, .int .i64 d.freeArea, .int .i64 d.base, .int .i64 d.altAt, .int .i64 d.altLength, .bool d.unique, .int .i64 d.cls, .string ⟨d.volume.toArray⟩, .string ⟨d.owner.toArray⟩, .int .i64 d.created, .int .i64 d.expires, .bool d.archived] rfl rfl _ _ (Blk.new w1 _) clSize rfl (cl_one _ rfl h d) ?_; intro w2 hcl hc2; have he2 : Ext w1 w2 := hc2.ext (Ext.alloc _ _) (Nat.le_refl _); have hb3 := he2.blk _ _ hb3) | (refine wpList_row rfl 77 (.tmp 12) rfl _ rfl _ _ _ hcl clDesc rfl clSize ?_) | (go_at_call 36; refine (Hal.out _).mono ?_; rw [HLI.out]; rintro e w3 ⟨rfl, he3⟩; have hb3 := he3.blk _ _ hb3) | (refine wpList_put rfl 28 (.tmp 8) (.tmp 34) rfl _ #[.int .i64 0, .int .i64 0, .int .i64 0, .int .i64 0, .int .i64 0, .int .i64 0, .int .i64 0] rfl rfl _ _ hb3 hdSize rfl (hd_one Hd.zero) ?_; intro w4 hb4 hc4))
      exact bodyPost_ret (results_row3 Tryd.results12 _ _ _ _ _ _ rfl hb4 hdDesc rfl hdSize) rfl (appOut_no (hc4.ext (((he0.trans he1).trans he2).trans he3) (by omega)) HR.out)
  · have HR : Hid (appendOf m h d r = .err (doorOf h d 1)) := Lib.hid (by unfold appendOf; rw [if_pos hdo])
    have hdI : (doorOf h d 1 != 0) = true := by simpa using hdo
    generalize doorOf h d 1 = c at *
    have hb1 := hb1.ext he1
    have hb2 := hb2.ext he1
    have hb3 := he1.blk _ _ hb3
    clear hdo
    go_wp2_with (first | (refine wpList_put rfl 77 (.tmp 12) (.tmp 23) rfl _ clZero rfl rfl _ _ (Blk.new w1 _) clSize rfl clZero_one ?_; intro w2 hcl hc2; have he2 : Ext w1 w2 := hc2.ext (Ext.alloc _ _) (Nat.le_refl _); have hb3 := he2.blk _ _ hb3) | (refine wpList_put rfl 28 (.tmp 8) (.tmp 27) rfl _ #[.int .i64 0, .int .i64 0, .int .i64 0, .int .i64 0, .int .i64 0, .int .i64 0, .int .i64 0] rfl rfl _ _ hb3 hdSize rfl (hd_one Hd.zero) ?_; intro w3 hb4 hc3))
    exact bodyPost_ret (results_row3 Tryd.results12 _ _ _ _ _ _ rfl hb4 hdDesc rfl hdSize) rfl (appOut_no (hc3.ext ((he0.trans he1).trans he2) (by omega)) HR.out)
end Go.Proofs.YtkhlglkipeoalaaDoor
