/- The walk of the law's 'grow': areas are added one after the other. -/
import Derived.Test.YtolmoknjmdmpgaaFT
import Derived.Test.YtolmoknjmdmpgaaFV
import Derived.Test.YtolmoknjmdmpgaaX18
set_option linter.unusedSimpArgs false
set_option linter.unusedVariables false
namespace Dsd
theorem pgAt_fin (M : List (List UInt8)) (h : Hd) (f : Int) (d : DS) (key : List UInt8) : ∀ j, pgAt M { h with fin := f } d key j = pgAt M h d key j
  | 0 => rfl
  | j + 1 => by
    have ih := pgAt_fin M h f d key j
    unfold pgAt
    rw [ih]
theorem ndAt_fin (M : List (List UInt8)) (h : Hd) (f : Int) (d : DS) (key : List UInt8) (j : Nat) : ndAt M { h with fin := f } d key j = ndAt M h d key j := by unfold ndAt; rw [pgAt_fin]
theorem erTo_fin (M : List (List UInt8)) (h : Hd) (f : Int) (d : DS) (key : List UInt8) : ∀ j, erTo M { h with fin := f } d key j = erTo M h d key j
  | 0 => rfl
  | j + 1 => by
    have ih := erTo_fin M h f d key j
    unfold erTo erAt
    rw [ih, pgAt_fin]
theorem pathTo_fin (M : List (List UInt8)) (h : Hd) (f : Int) (d : DS) (key : List UInt8) (k : Nat) : pathTo M { h with fin := f } d key k = pathTo M h d key k := by
  unfold pathTo
  exact List.map_congr_left fun j _ => pgAt_fin M h f d key j
theorem stepsTo_fin (M : List (List UInt8)) (h : Hd) (f : Int) (d : DS) (key : List UInt8) : ∀ k, stepsTo M { h with fin := f } d key k = stepsTo M h d key k
  | 0 => rfl
  | k + 1 => by
    unfold stepsTo
    rw [stepsTo_fin M h f d key k]
    unfold stpAt
    rw [pgAt_fin, ndAt_fin]
/-- Has the law found a page among the old ones? -/
def oldJ (gf pg : Int) (P : List Int) (j : Nat) : Bool := decide (gf < pg) || (P.take j).any (fun y => pg == y)
theorem oldJ_step (gf pg : Int) (P : List Int) {j : Nat} (hj : j < P.length) : oldJ gf pg P (j + 1) = (oldJ gf pg P j || (pg == P.getD j 0)) := by
  unfold oldJ
  have e : P.getD j 0 = P[j] := by simp [List.getD, hj]
  rw [List.take_succ_eq_append_getElem hj, List.any_append, e, Bool.or_assoc]
  simp
theorem oldJ_yes {gf pg : Int} {P : List Int} {H : Nat} (h : (∃ j, j < H ∧ pg = P.getD j 0) ∨ gf < pg) (hl : H < P.length) : oldJ gf pg P H = true := by
  unfold oldJ
  rcases h with ⟨j, hj, e⟩ | h
  · have h1 : (P.take H).any (fun y => pg == y) = true := by
      rw [List.any_eq_true]
      refine ⟨P[j], ?_, ?_⟩
      · rw [List.mem_take_iff_getElem]
        exact ⟨j, by omega, rfl⟩
      · rw [e]; simp [List.getD, show j < P.length by omega]
    rw [h1, Bool.or_true]
  · rw [decide_eq_true h, Bool.true_or]
end Dsd
namespace Go.Proofs.Ytolmoknjmdmpgaa
open Go.RowKit Dsd
theorem hdBuiltS (x : Int) : Try.prog.built 30 [(3, .int .i64 1), (2, .int .i64 x), (6, .int .i64 1)] = some #[.int .i64 (Hd.mk 0 0 x 1 0 0 1).applied, .int .i64 (Hd.mk 0 0 x 1 0 0 1).count, .int .i64 (Hd.mk 0 0 x 1 0 0 1).fin, .int .i64 (Hd.mk 0 0 x 1 0 0 1).root, .int .i64 (Hd.mk 0 0 x 1 0 0 1).height, .int .i64 (Hd.mk 0 0 x 1 0 0 1).splits, .int .i64 (Hd.mk 0 0 x 1 0 0 1).areas] := by kernel_rfl
theorem itBuilt (s : ByteArray) (x : Int) : Try.prog.built 49 [(0, .string s), (1, .int .i64 x)] = some #[.string s, .int .i64 x] := by kernel_rfl
theorem infoItem : (Try.prog.info? 49).map (fun i => (i.zero, i.size, i.bytes)) = some (some (.agg #[.string ByteArray.empty, .int .i64 0]), 2, 24) := by kernel_rfl
theorem hd_one1 (h : Hd) : (#[.int .i64 h.applied, .int .i64 h.count, .int .i64 h.fin, .int .i64 h.root, .int .i64 h.height, .int .i64 h.splits, .int .i64 h.areas] : Array Value).all (·.oneCell') = true := by simp [Value.oneCell']
theorem results_grow (tmps : Array Value) (w : World) (g : Nat) (h : Hd) (v4 v6 v7 : Value) (h4 : tmps.getD 4 undef = v4) (h6 : tmps.getD 6 undef = v6) (h7 : tmps.getD 7 undef = v7)
    (hp : tmps.getD 5 undef = .pointer (some ⟨g, 0, none⟩)) (hg : HdAt w g h) :
    (results Try.f7 tmps).run Try.prog w = .ok (.tuple #[v4, .agg #[.int .i64 h.applied, .int .i64 h.count, .int .i64 h.fin, .int .i64 h.root, .int .i64 h.height, .int .i64 h.splits, .int .i64 h.areas], v6, v7]) w := by
  have hp' : tmps[5]?.getD undef = .pointer (some ⟨g, 0, none⟩) := by simpa using hp
  have hlr := run_loadVar_row w g 30 30 #[.int .i64 h.applied, .int .i64 h.count, .int .i64 h.fin, .int .i64 h.root, .int .i64 h.height, .int .i64 h.splits, .int .i64 h.areas] (0, 0) _ hg hdDesc rfl hdSize
  have e4 : tmps[4]?.getD undef = v4 := by simpa using h4
  have e6 : tmps[6]?.getD undef = v6 := by simpa using h6
  have e7 : tmps[7]?.getD undef = v7 := by simpa using h7
  simp [results, Try.results7, hp', asAddr, hlr, Sem.run_bind, e4, e6, e7]
theorem results_row0 {P : Program} {fn : Func} {p : Tmp} {ty : TypeId} (h : fn.results = #[.cell p ty]) (tmps : Array Value) (w : World) (g : Nat) (t : TypeId) (cs : Array Value) (d : TypeDesc)
    (hp : tmps.getD p undef = .pointer (some ⟨g, 0, none⟩)) (hg : Blk w g (.cells cs t)) (hu : P.underlying ty = some d) (hd : (match d with | .struct _ | .array _ _ => true | _ => false) = true) (hi : (P.info? ty).map (·.size) = some cs.size) :
    (results fn tmps).run P w = .ok (.agg cs) w := by
  have hp' : tmps[p]?.getD undef = .pointer (some ⟨g, 0, none⟩) := by simpa using hp
  have hlr := run_loadVar_row w g t ty cs (0, 0) d hg hu hd hi
  simp [results, h, hp', asAddr, hlr, Sem.run_bind]
set_option maxRecDepth 100000 in
theorem Start_any (d : DS) (w : World) (hd : keyedB d = true) : Calls Try.prog 14 #[.agg #[.int .i64 d.id, .int .i64 d.org, .int .i64 d.format, .int .i64 d.length, .int .i64 d.block, .int .i64 d.keyAt, .int .i64 d.keyLength, .int .i64 d.interval, .int .i64 d.area, .int .i64 d.freeInterval, .int .i64 d.freeArea, .int .i64 d.base, .int .i64 d.altAt, .int .i64 d.altLength, .bool d.unique, .int .i64 d.cls, .string ⟨d.volume.toArray⟩, .string ⟨d.owner.toArray⟩, .int .i64 d.created, .int .i64 d.expires, .bool d.archived]] w fun e w' => e = .returned (.agg #[.int .i64 (startH d).applied, .int .i64 (startH d).count, .int .i64 (startH d).fin, .int .i64 (startH d).root, .int .i64 (startH d).height, .int .i64 (startH d).splits, .int .i64 (startH d).areas]) ∧ Ext w w' := by
  have x0 := Ext.alloc w (.cells #[.int .i64 d.id, .int .i64 d.org, .int .i64 d.format, .int .i64 d.length, .int .i64 d.block, .int .i64 d.keyAt, .int .i64 d.keyLength, .int .i64 d.interval, .int .i64 d.area, .int .i64 d.freeInterval, .int .i64 d.freeArea, .int .i64 d.base, .int .i64 d.altAt, .int .i64 d.altLength, .bool d.unique, .int .i64 d.cls, .string ⟨d.volume.toArray⟩, .string ⟨d.owner.toArray⟩, .int .i64 d.created, .int .i64 d.expires, .bool d.archived] 23)
  have b0 := Blk.new w (.cells #[.int .i64 d.id, .int .i64 d.org, .int .i64 d.format, .int .i64 d.length, .int .i64 d.block, .int .i64 d.keyAt, .int .i64 d.keyLength, .int .i64 d.interval, .int .i64 d.area, .int .i64 d.freeInterval, .int .i64 d.freeArea, .int .i64 d.base, .int .i64 d.altAt, .int .i64 d.altLength, .bool d.unique, .int .i64 d.cls, .string ⟨d.volume.toArray⟩, .string ⟨d.owner.toArray⟩, .int .i64 d.created, .int .i64 d.expires, .bool d.archived] 23)
  have x1 := Ext.alloc (w.alloc (.cells #[.int .i64 d.id, .int .i64 d.org, .int .i64 d.format, .int .i64 d.length, .int .i64 d.block, .int .i64 d.keyAt, .int .i64 d.keyLength, .int .i64 d.interval, .int .i64 d.area, .int .i64 d.freeInterval, .int .i64 d.freeArea, .int .i64 d.base, .int .i64 d.altAt, .int .i64 d.altLength, .bool d.unique, .int .i64 d.cls, .string ⟨d.volume.toArray⟩, .string ⟨d.owner.toArray⟩, .int .i64 d.created, .int .i64 d.expires, .bool d.archived] 23)) (.cells #[.int .i64 0, .int .i64 0, .int .i64 0, .int .i64 0, .int .i64 0, .int .i64 0, .int .i64 0] 30)
  have b1 := Blk.new (w.alloc (.cells #[.int .i64 d.id, .int .i64 d.org, .int .i64 d.format, .int .i64 d.length, .int .i64 d.block, .int .i64 d.keyAt, .int .i64 d.keyLength, .int .i64 d.interval, .int .i64 d.area, .int .i64 d.freeInterval, .int .i64 d.freeArea, .int .i64 d.base, .int .i64 d.altAt, .int .i64 d.altLength, .bool d.unique, .int .i64 d.cls, .string ⟨d.volume.toArray⟩, .string ⟨d.owner.toArray⟩, .int .i64 d.created, .int .i64 d.expires, .bool d.archived] 23)) (.cells #[.int .i64 0, .int .i64 0, .int .i64 0, .int .i64 0, .int .i64 0, .int .i64 0, .int .i64 0] 30)
  rw [World.size_alloc] at b1
  have hw1 : IntKind.i64.wrap (1 + d.area) = 1 + d.area := by
    obtain ⟨_, _, _, _, _, _, _, a1, a2⟩ := keyed_spec hd
    exact IntWalk.i64_in _ (by omega)
  clear hd
  go_enter Try.func14, Try.ntmps14
  go_upto_region 1 with fail
  refine wp_name (fun w0 => Ext w w0 ∧ DsAt w0 w.heap.size d ∧ Blk w0 (w.heap.size + 1) (.cells #[.int .i64 0, .int .i64 0, .int .i64 0, .int .i64 0, .int .i64 0, .int .i64 0, .int .i64 0] 30)) ⟨x0.trans x1, x1.blk _ _ b0, b1⟩ ?_
  clear x0 b0 x1 b1
  rintro w0 ⟨hx, hd0, hh0⟩
  have c8 : w0.cell? ⟨w.heap.size, 8, none⟩ = some (.int .i64 d.area) := Blk.val hd0 8 _ rfl
  have l8 := Blk.lt hd0
  go_wp2_with (first
    | ((with_reducible (show wpList _ _ _ (⟨some 6, _, _, _, _, _⟩ :: _) _ _)); refine wpList_bld (o := ⟨some 6, _, _, _, _, _⟩) rfl 30 _ rfl [(3, .int .i64 1), (2, .int .i64 (1 + d.area)), (6, .int .i64 1)] rfl _ (hdBuiltS (1 + d.area)) ?_)
    | (refine wpList_put rfl 30 (.tmp 2) (.tmp 6) rfl _ #[.int .i64 (startH d).applied, .int .i64 (startH d).count, .int .i64 (startH d).fin, .int .i64 (startH d).root, .int .i64 (startH d).height, .int .i64 (startH d).splits, .int .i64 (startH d).areas] rfl rfl _ _ hh0 hdSize rfl (hd_one1 _) ?_; intro w4 hb4 hc4))
  exact bodyPost_ret (results_row0 Try.results14 _ _ _ _ _ _ rfl hb4 hdDesc rfl hdSize) rfl ⟨rfl, hc4.ext hx (by omega)⟩
end Go.Proofs.Ytolmoknjmdmpgaa
/- The walk of the law's 'grow', whole. -/
namespace Dsd
theorem grf_le {d : DS} {M : List (List UInt8)} {h : Hd} {items : List Itm} {k k' : Nat} (hk : k ≤ k') (G : GrF d k M h items) : GrF d k' M h items := by
  induction k' with
  | zero => obtain rfl : k = 0 := by omega
            exact G
  | succ m ih =>
    by_cases e : k = m + 1
    · rw [← e]; exact G
    · exact grf_more (ih (by omega))
end Dsd
namespace Go.Proofs.Ytolmoknjmdmpgaa
open Go.RowKit Dsd
/-- What grow hands back. -/
def GrowOut (d : DS) (w : World) (e : Ending) (w' : World) : Prop := Ext w w' ∧ ∃ (M : List (List UInt8)) (h : Hd) (items : List Itm) (g8 c8 g10 c10 : Nat), GrF d 60 M h items ∧ e = .returned (.tuple #[.slice (some ⟨g8, 0, none⟩) M.length c8, .agg #[.int .i64 h.applied, .int .i64 h.count, .int .i64 h.fin, .int .i64 h.root, .int .i64 h.height, .int .i64 h.splits, .int .i64 h.areas], .slice (some ⟨g10, 0, none⟩) items.length c10, .bool true]) ∧ Strs w' (some ⟨g8, 0, none⟩) M ∧ Nents w' (some ⟨g10, 0, none⟩) items
/-- The state of a round. -/
structure GwS (d : DS) (w wr : World) (hb g8 c8 g10 c10 : Nat) (M : List (List UInt8)) (h : Hd) (items : List Itm) : Prop where
  ex : Ext w wr
  ds : DsAt wr w.heap.size d
  rb : Blk wr (w.heap.size + 1) (.cells #[.int .i64 0, .int .i64 0, .int .i64 0, .int .i64 0, .int .i64 0, .int .i64 0, .int .i64 0] 30)
  hd : HdAt wr hb h
  mr : wr.ownsRow w.heap.size 9 1 (.slice (some ⟨g8, 0, none⟩) M.length c8) M.length (M.map fun s : List UInt8 => Value.string ⟨s.toArray⟩)
  ir : wr.ownsRow w.heap.size 49 2 (.slice (some ⟨g10, 0, none⟩) items.length c10) items.length (entCells items)
  mp : 1 ≤ M.length
theorem GwS.ext {d : DS} {w wr w' : World} {hb g8 c8 g10 c10 : Nat} {M : List (List UInt8)} {h : Hd} {items : List Itm} (s : GwS d w wr hb g8 c8 g10 c10 M h items) (e : Ext wr w') : GwS d w w' hb g8 c8 g10 c10 M h items :=
  ⟨s.ex.trans e, s.ds.ext e, e.blk _ _ s.rb, s.hd.ext e, own_ext s.mr e, own_ext s.ir e, s.mp⟩
theorem hd_set {b : Nat} {wr : World} {cs : Array Value} (hb : Blk wr b (.cells #[.int .i64 0, .int .i64 0, .int .i64 0, .int .i64 0, .int .i64 0, .int .i64 0, .int .i64 0] 30)) (h : Hd) :
    HdAt (((((((wr.setCell ⟨b, 0, none⟩ (.int .i64 h.applied)).setCell ⟨b, 1, none⟩ (.int .i64 h.count)).setCell ⟨b, 2, none⟩ (.int .i64 h.fin)).setCell ⟨b, 3, none⟩ (.int .i64 h.root)).setCell ⟨b, 4, none⟩ (.int .i64 h.height)).setCell ⟨b, 5, none⟩ (.int .i64 h.splits)).setCell ⟨b, 6, none⟩ (.int .i64 h.areas)) b h ∧
    Chg b wr (((((((wr.setCell ⟨b, 0, none⟩ (.int .i64 h.applied)).setCell ⟨b, 1, none⟩ (.int .i64 h.count)).setCell ⟨b, 2, none⟩ (.int .i64 h.fin)).setCell ⟨b, 3, none⟩ (.int .i64 h.root)).setCell ⟨b, 4, none⟩ (.int .i64 h.height)).setCell ⟨b, 5, none⟩ (.int .i64 h.splits)).setCell ⟨b, 6, none⟩ (.int .i64 h.areas)) := by
  have c0 := Chg.setCell (w := wr) (g := b) (i := 0) (v := .int .i64 h.applied)
  have b0 := Blk.setCell (i := 0) (v := .int .i64 h.applied) hb
  generalize wr.setCell ⟨b, 0, none⟩ (.int .i64 h.applied) = w1 at *
  have c1 := Chg.setCell (w := w1) (g := b) (i := 1) (v := .int .i64 h.count)
  have b1 := Blk.setCell (i := 1) (v := .int .i64 h.count) b0
  generalize w1.setCell ⟨b, 1, none⟩ (.int .i64 h.count) = w2 at *
  have c2 := Chg.setCell (w := w2) (g := b) (i := 2) (v := .int .i64 h.fin)
  have b2 := Blk.setCell (i := 2) (v := .int .i64 h.fin) b1
  generalize w2.setCell ⟨b, 2, none⟩ (.int .i64 h.fin) = w3 at *
  have c3 := Chg.setCell (w := w3) (g := b) (i := 3) (v := .int .i64 h.root)
  have b3 := Blk.setCell (i := 3) (v := .int .i64 h.root) b2
  generalize w3.setCell ⟨b, 3, none⟩ (.int .i64 h.root) = w4 at *
  have c4 := Chg.setCell (w := w4) (g := b) (i := 4) (v := .int .i64 h.height)
  have b4 := Blk.setCell (i := 4) (v := .int .i64 h.height) b3
  generalize w4.setCell ⟨b, 4, none⟩ (.int .i64 h.height) = w5 at *
  have c5 := Chg.setCell (w := w5) (g := b) (i := 5) (v := .int .i64 h.splits)
  have b5 := Blk.setCell (i := 5) (v := .int .i64 h.splits) b4
  generalize w5.setCell ⟨b, 5, none⟩ (.int .i64 h.splits) = w6 at *
  have c6 := Chg.setCell (w := w6) (g := b) (i := 6) (v := .int .i64 h.areas)
  have b6 := Blk.setCell (i := 6) (v := .int .i64 h.areas) b5
  exact ⟨b6, (((((c0.trans c1).trans c2).trans c3).trans c4).trans c5).trans c6⟩
/-- The call's end, told at the exact world. -/
theorem grow_fin22 {d : DS} {w wr : World} {hb g8 c8 g10 c10 k : Nat} {M : List (List UInt8)} {h : Hd} {items : List Itm} (s : GwS d w wr hb g8 c8 g10 c10 M h items) (hk : k ≤ 60) (hG : GrF d k M h items) (tmps : Array Value)
    (h4 : tmps.getD 4 undef = .slice (some ⟨g8, 0, none⟩) M.length c8) (h5 : tmps.getD 5 undef = .pointer (some ⟨w.heap.size + 1, 0, none⟩)) (h6 : tmps.getD 6 undef = .slice (some ⟨g10, 0, none⟩) items.length c10) (h7 : tmps.getD 7 undef = .bool true) :
    bodyPost Try.prog Try.f7 (GrowOut d w) Exit.ret ⟨tmps, []⟩ (((((((wr.setCell ⟨w.heap.size + 1, 0, none⟩ (.int .i64 h.applied)).setCell ⟨w.heap.size + 1, 1, none⟩ (.int .i64 h.count)).setCell ⟨w.heap.size + 1, 2, none⟩ (.int .i64 h.fin)).setCell ⟨w.heap.size + 1, 3, none⟩ (.int .i64 h.root)).setCell ⟨w.heap.size + 1, 4, none⟩ (.int .i64 h.height)).setCell ⟨w.heap.size + 1, 5, none⟩ (.int .i64 h.splits)).setCell ⟨w.heap.size + 1, 6, none⟩ (.int .i64 h.areas)).drew := by
  obtain ⟨q1, q2⟩ := hd_set (cs := #[]) s.rb h
  generalize (((((((wr.setCell ⟨w.heap.size + 1, 0, none⟩ (.int .i64 h.applied)).setCell ⟨w.heap.size + 1, 1, none⟩ (.int .i64 h.count)).setCell ⟨w.heap.size + 1, 2, none⟩ (.int .i64 h.fin)).setCell ⟨w.heap.size + 1, 3, none⟩ (.int .i64 h.root)).setCell ⟨w.heap.size + 1, 4, none⟩ (.int .i64 h.height)).setCell ⟨w.heap.size + 1, 5, none⟩ (.int .i64 h.splits)).setCell ⟨w.heap.size + 1, 6, none⟩ (.int .i64 h.areas)) = W at *
  have hx := Ext.drew W
  exact bodyPost_ret (results_grow tmps W.drew (w.heap.size + 1) h _ _ _ h4 h6 h7 h5 (q1.ext hx)) rfl ⟨(q2.ext s.ex (by omega)).trans hx, M, h, items, g8, c8, g10, c10, grf_le hk hG, rfl, (own_strsX (own_chgT s.mr (by decide) s.rb q2)).ext hx, (own_cellsND (own_chgT s.ir (by decide) s.rb q2)).ext hx⟩
theorem cells_srcY {w : World} {q : Option Addr} {xs : List Value} (h : Cells w q xs) (hx : xs ≠ []) : ∃ ad, q = some ad ∧ ∀ j u, xs[j]? = some u → w.cell? (ad.add j) = some u := by
  rcases h with h | ⟨b, off, hq, hb, hc⟩
  · exact absurd h hx
  · refine ⟨_, hq, fun j u hj => ?_⟩
    have hjl : j < xs.length := (List.getElem?_eq_some_iff.1 hj).1
    rw [addr_add, hc j hjl]
    simp [List.getD, hj]
theorem entCells_appY (A B : List Ent) : entCells (A ++ B) = entCells A ++ entCells B := by unfold entCells; rw [List.flatMap_append]
set_option maxRecDepth 100000 in
set_option maxHeartbeats 8000000 in
theorem grow_any (p : Option Addr) (cap n : Nat) (bs : List (List UInt8)) (d : DS) (w : World) (hs : Strs w p bs) (hn : bs.length = n) (hn60 : n ≤ 60) (hb40 : ∀ s ∈ bs, s.length ≤ 40) (hk : keyedB d = true) :
    Calls Try.prog 7 #[.agg #[.int .i64 d.id, .int .i64 d.org, .int .i64 d.format, .int .i64 d.length, .int .i64 d.block, .int .i64 d.keyAt, .int .i64 d.keyLength, .int .i64 d.interval, .int .i64 d.area, .int .i64 d.freeInterval, .int .i64 d.freeArea, .int .i64 d.base, .int .i64 d.altAt, .int .i64 d.altLength, .bool d.unique, .int .i64 d.cls, .string ⟨d.volume.toArray⟩, .string ⟨d.owner.toArray⟩, .int .i64 d.created, .int .i64 d.expires, .bool d.archived], .slice p n cap] w (GrowOut d w) := by
  have x0 := Ext.alloc w (.cells #[.int .i64 d.id, .int .i64 d.org, .int .i64 d.format, .int .i64 d.length, .int .i64 d.block, .int .i64 d.keyAt, .int .i64 d.keyLength, .int .i64 d.interval, .int .i64 d.area, .int .i64 d.freeInterval, .int .i64 d.freeArea, .int .i64 d.base, .int .i64 d.altAt, .int .i64 d.altLength, .bool d.unique, .int .i64 d.cls, .string ⟨d.volume.toArray⟩, .string ⟨d.owner.toArray⟩, .int .i64 d.created, .int .i64 d.expires, .bool d.archived] 23)
  have b0 := Blk.new w (.cells #[.int .i64 d.id, .int .i64 d.org, .int .i64 d.format, .int .i64 d.length, .int .i64 d.block, .int .i64 d.keyAt, .int .i64 d.keyLength, .int .i64 d.interval, .int .i64 d.area, .int .i64 d.freeInterval, .int .i64 d.freeArea, .int .i64 d.base, .int .i64 d.altAt, .int .i64 d.altLength, .bool d.unique, .int .i64 d.cls, .string ⟨d.volume.toArray⟩, .string ⟨d.owner.toArray⟩, .int .i64 d.created, .int .i64 d.expires, .bool d.archived] 23)
  have x1 := Ext.alloc (w.alloc (.cells #[.int .i64 d.id, .int .i64 d.org, .int .i64 d.format, .int .i64 d.length, .int .i64 d.block, .int .i64 d.keyAt, .int .i64 d.keyLength, .int .i64 d.interval, .int .i64 d.area, .int .i64 d.freeInterval, .int .i64 d.freeArea, .int .i64 d.base, .int .i64 d.altAt, .int .i64 d.altLength, .bool d.unique, .int .i64 d.cls, .string ⟨d.volume.toArray⟩, .string ⟨d.owner.toArray⟩, .int .i64 d.created, .int .i64 d.expires, .bool d.archived] 23)) (.cells #[.int .i64 0, .int .i64 0, .int .i64 0, .int .i64 0, .int .i64 0, .int .i64 0, .int .i64 0] 30)
  have b1 := Blk.new (w.alloc (.cells #[.int .i64 d.id, .int .i64 d.org, .int .i64 d.format, .int .i64 d.length, .int .i64 d.block, .int .i64 d.keyAt, .int .i64 d.keyLength, .int .i64 d.interval, .int .i64 d.area, .int .i64 d.freeInterval, .int .i64 d.freeArea, .int .i64 d.base, .int .i64 d.altAt, .int .i64 d.altLength, .bool d.unique, .int .i64 d.cls, .string ⟨d.volume.toArray⟩, .string ⟨d.owner.toArray⟩, .int .i64 d.created, .int .i64 d.expires, .bool d.archived] 23)) (.cells #[.int .i64 0, .int .i64 0, .int .i64 0, .int .i64 0, .int .i64 0, .int .i64 0, .int .i64 0] 30)
  rw [World.size_alloc] at b1
  have HA : Hid (2 ≤ d.area ∧ d.area ≤ 8 ∧ 1 ≤ d.keyLength ∧ d.keyLength ≤ 32) := Lib.hid (by
    obtain ⟨_, _, _, _, _, _, _, a1, a2⟩ := keyed_spec hk
    obtain ⟨_, k1, k2, k3⟩ := keyed_nums hk
    exact ⟨a1, a2, k1, by omega⟩)
  have HSt := Lib.hid (fun W => Start_any d W hk)
  have H0 := Lib.hid (grf_start hk)
  have Hs := Lib.hid hs
  have Hb40 := Lib.hid hb40
  have HO : Hid (∀ e w', GrowOut d w e w' → GrowOut d w e w') := Lib.hid (fun _ _ h => h)
  clear hs hb40
  generalize hOU : GrowOut d w = OUT at *
  have HOU := Lib.hid hOU
  clear hOU HO
  go_enter Try.func7, Try.ntmps7
  go_upto_region 1 with fail
  refine wp_name (fun w0 => Ext w w0 ∧ DsAt w0 w.heap.size d ∧ Blk w0 (w.heap.size + 1) (.cells #[.int .i64 0, .int .i64 0, .int .i64 0, .int .i64 0, .int .i64 0, .int .i64 0, .int .i64 0] 30)) ⟨x0.trans x1, x1.blk _ _ b0, b1⟩ ?_
  clear x0 b0 x1 b1
  rintro w0 ⟨hx0, hd0, hr0⟩
  have hd0' := hd0.ext (Ext.alloc w0 (.cells #[.string ⟨#[]⟩] 9))
  go_upto_region 2 with (first
    | ((with_reducible (show wpList _ _ _ (⟨some 29, _, _, _, _, _⟩ :: _) _ _)); refine wpList_ds (o := ⟨some 29, _, _, _, _, _⟩) rfl (.tmp 2) rfl _ rfl d hd0' ?_)
    | (go_at_call 14; refine (HSt.out _).mono ?_; rintro e w1 ⟨rfl, he1⟩)
    | ((with_reducible (show wpList _ _ _ (⟨some 31, _, _, _, _, _⟩ :: _) _ _)); refine wpList_bld (o := ⟨some 31, _, _, _, _, _⟩) rfl 49 _ rfl [(0, .string ⟨#[]⟩), (1, .int .i64 1)] rfl _ (itBuilt ⟨#[]⟩ 1) ?_))
  have hxi := Ext.alloc w1 (.cells #[.string ⟨#[]⟩, .int .i64 1] 49)
  have hxh := Ext.alloc (w1.alloc (.cells #[.string ⟨#[]⟩, .int .i64 1] 49)) (.cells #[.int .i64 (startH d).applied, .int .i64 (startH d).count, .int .i64 (startH d).fin, .int .i64 (startH d).root, .int .i64 (startH d).height, .int .i64 (startH d).splits, .int .i64 (startH d).areas] 30)
  have hh4 := Blk.new (w1.alloc (.cells #[.string ⟨#[]⟩, .int .i64 1] 49)) (.cells #[.int .i64 (startH d).applied, .int .i64 (startH d).count, .int .i64 (startH d).fin, .int .i64 (startH d).root, .int .i64 (startH d).height, .int .i64 (startH d).splits, .int .i64 (startH d).areas] 30)
  rw [World.size_alloc] at hh4
  have hx41 := hxi.trans hxh
  have hx4 := ((Ext.alloc w0 (.cells #[.string ⟨#[]⟩] 9)).trans he1).trans hx41
  have hm4 := hx41.blk _ _ (he1.blk _ _ (Blk.new w0 (.cells #[.string ⟨#[]⟩] 9)))
  have hi4 := hxh.blk _ _ (Blk.new w1 (.cells #[.string ⟨#[]⟩, .int .i64 1] 49))
  have hz0 := hx0.size
  have hz1 := he1.size
  have hz2 := Blk.lt hr0
  refine wp_name (fun w5 => GwS d w w5 (w1.heap.size + 1) w0.heap.size 1 w1.heap.size 1 [[]] (startH d) [([], 1)] ∧ w.heap.size + 1 < w1.heap.size + 1) ⟨⟨hx0.trans hx4, hd0.ext hx4, hx4.blk _ _ hr0, hh4, own_of_blk (xs := [.string ⟨#[]⟩]) hm4 hz0 rfl (by decide), own_of_blk (xs := [.string ⟨#[]⟩, .int .i64 1]) hi4 (by simp at hz1; omega) rfl (by decide), Nat.le_refl _⟩, by simp at hz1; omega⟩ ?_
  clear hd0' hxi hxh hx4 hx41 hm4 hi4 hh4 hx0 hd0 hr0 he1 hz0 hz1 hz2
  generalize w0.heap.size = mb at *
  generalize w1.heap.size = ib at *
  generalize hhb : ib + 1 = hb at *
  rintro w5 ⟨hg5, hlb⟩
  have HG5 := Lib.hid hg5
  clear hg5
  go_upto_region 3 with fail
  have hn := hn
  go_loopw [35, 8, 10] (fun i v8 v10 wr => ∃ (k : Nat) (M : List (List UInt8)) (h : Hd) (items : List Itm) (g8 c8 g10 c10 : Nat), k ≤ n ∧ i = .int .i64 k ∧ v8 = .slice (some ⟨g8, 0, none⟩) M.length c8 ∧ v10 = .slice (some ⟨g10, 0, none⟩) items.length c10 ∧ GrF d k M h items ∧ GwS d w wr hb g8 c8 g10 c10 M h items) (fun i _ _ _ => n - (intOf i).toNat)
  case atStart => exact ⟨0, [[]], startH d, [([], 1)], mb, 1, ib, 1, Nat.zero_le _, rfl, rfl, rfl, H0.out, HG5.out⟩
  case round =>
    obtain ⟨k, M, h, items, g8, c8, g10, c10, hk', rfl, rfl, rfl, hG, hst⟩ := hrel
    have HSt0 := Lib.hid hst
    by_cases hlt : k < n
    · have hltI : (k : Int) < n := by omega
      obtain ⟨gb, ob, rfl, hgl, hcc⟩ := (Hs.out.ext hst.ex).at k (by omega)
      have hcb := hcc k (by omega)
      have hbl : (bs.getD k []).length ≤ 40 := by
        have e : bs.getD k [] = bs[k]'(by omega) := by simp [List.getD, show k < bs.length by omega]
        rw [e]; exact Hb40.out _ (List.getElem_mem _)
      clear hcc
      generalize bs.getD k [] = b at *
      have HGF := Lib.hid hG
      obtain ⟨⟨pgs, G⟩, _⟩ := hG
      have hz := G.door (by omega)
      have hsm := G.small (by omega)
      have hh0 := G.tree.h0
      have hh5 := G.h5 (by omega)
      obtain ⟨H, hH⟩ : ∃ H : Nat, h.height = H := ⟨h.height.toNat, by omega⟩
      have hHn : h.height.toNat = H := by omega
      obtain ⟨her, _⟩ := led_end (key := b) hh0 G.tree.srt G.tree.sub G.tree.low0
      rw [hHn] at her
      have hlE : locE M h d b = 0 := by unfold locE; rw [if_neg (by rw [hz]; simp), hHn]; exact her
      have hlL : locL M h d b = pathTo M h d b H := by unfold locL; rw [if_pos hlE, hHn]
      have hlD : lowD M h d b = lowTo M h d b H := by unfold lowD; rw [if_pos hlE, hHn]
      obtain ⟨n1, hn1⟩ : ∃ n1, n1 = H + 1 := ⟨_, rfl⟩
      have hpl : (pathTo M h d b H).length = n1 := by rw [pathTo_len, hn1]
      have HLo : Hid (∀ W, Strs W (some ⟨g8, 0, none⟩) M → Calls Try.prog 11 #[.iface 28 (.slice (some ⟨g8, 0, none⟩) M.length c8), .agg #[.int .i64 h.applied, .int .i64 h.count, .int .i64 h.fin, .int .i64 h.root, .int .i64 h.height, .int .i64 h.splits, .int .i64 h.areas], .agg #[.int .i64 d.id, .int .i64 d.org, .int .i64 d.format, .int .i64 d.length, .int .i64 d.block, .int .i64 d.keyAt, .int .i64 d.keyLength, .int .i64 d.interval, .int .i64 d.area, .int .i64 d.freeInterval, .int .i64 d.freeArea, .int .i64 d.base, .int .i64 d.altAt, .int .i64 d.altLength, .bool d.unique, .int .i64 d.cls, .string ⟨d.volume.toArray⟩, .string ⟨d.owner.toArray⟩, .int .i64 d.created, .int .i64 d.expires, .bool d.archived], .string ⟨b.toArray⟩] W fun e w' => Ext W w' ∧ ∃ q c, e = .returned (.tuple #[.slice q n1 c, .int .i64 0]) ∧ Ints w' q (pathTo M h d b H) ∧ n1 ≤ c) := Lib.hid (fun W hh => (Locate22_any (some ⟨g8, 0, none⟩) c8 M.length M h d b W hh rfl hsm).mono (fun e w' ⟨a1, q, c, a2, a3⟩ => by
        rw [hlL, hpl, hlE] at a2
        rw [hlL, hpl] at a3
        exact ⟨a1, q, c, a2, path_ints a3, own_cap a3⟩))
      have HBn : Hid (∀ W, Strs W (some ⟨g8, 0, none⟩) M → Calls Try.prog 15 #[.iface 28 (.slice (some ⟨g8, 0, none⟩) M.length c8), .agg #[.int .i64 h.applied, .int .i64 h.count, .int .i64 h.fin, .int .i64 h.root, .int .i64 h.height, .int .i64 h.splits, .int .i64 h.areas], .agg #[.int .i64 d.id, .int .i64 d.org, .int .i64 d.format, .int .i64 d.length, .int .i64 d.block, .int .i64 d.keyAt, .int .i64 d.keyLength, .int .i64 d.interval, .int .i64 d.area, .int .i64 d.freeInterval, .int .i64 d.freeArea, .int .i64 d.base, .int .i64 d.altAt, .int .i64 d.altLength, .bool d.unique, .int .i64 d.cls, .string ⟨d.volume.toArray⟩, .string ⟨d.owner.toArray⟩, .int .i64 d.created, .int .i64 d.expires, .bool d.archived], .string ⟨b.toArray⟩] W fun e w' => Ext W w' ∧ ∃ hi, e = .returned (.tuple #[.string ⟨(lowTo M h d b H).toArray⟩, .string ⟨hi⟩, .int .i64 0])) := Lib.hid (fun W hh => (Bounds22_any (some ⟨g8, 0, none⟩) c8 M.length M h d b W hh rfl hsm).mono (fun e w' ⟨a1, a2⟩ => by
        rw [hlD, hlE] at a2
        exact ⟨a1, _, a2⟩))
      have HG := Lib.hid G
      have HH := Lib.hid (And.intro hH (And.intro hHn (And.intro hn1 (And.intro hpl (And.intro her (And.intro hz hsm))))))
      have hH0 : decide (((H : Nat) : Int) < 0) = false := by simp
      have hH0N : ¬ ((H : Nat) : Int) < 0 := by omega
      have hw1 : IntKind.i64.wrap (((H : Nat) : Int) + 1) = ((n1 : Nat) : Int) := by rw [IntWalk.i64_in _ (by omega)]; omega
      have hnn : (((n1 : Nat) : Int) != ((n1 : Nat) : Int)) = false := by simp
      have hH5 : H ≤ 5 := by omega
      clear hh0 hh5 hH hHn hz hsm her hlE hlL hlD hpl hn1 G
      have hdw := hst.ds
      have hhw := hst.hd
      have hsw := own_strsX hst.mr
      go_upto_region 6 with (first
        | ((with_reducible (show wpList _ _ _ (⟨some 42, _, _, _, _, _⟩ :: _) _ _)); refine wpList_hd (o := ⟨some 42, _, _, _, _, _⟩) rfl (.tmp 9) rfl _ rfl h hhw ?_)
        | ((with_reducible (show wpList _ _ _ (⟨some 43, _, _, _, _, _⟩ :: _) _ _)); refine wpList_ds (o := ⟨some 43, _, _, _, _, _⟩) rfl (.tmp 2) rfl _ rfl d hdw ?_)
        | (go_at_call 11; refine (HLo.out _ hsw).mono ?_; rintro e w2 ⟨he2, q2, c2, rfl, hp2, hc2⟩))
      have hst2 := hst.ext he2
      have hdw2 := hst2.ds
      have hhw2 := hst2.hd
      have hsw2 := own_strsX hst2.mr
      have Hp2 := Lib.hid hp2
      clear hst hdw hhw hsw hp2 he2 hcb hgl
      go_upto_region 7 with (first
        | ((with_reducible (show wpList _ _ _ (⟨some 51, _, _, _, _, _⟩ :: _) _ _)); refine wpList_hd (o := ⟨some 51, _, _, _, _, _⟩) rfl (.tmp 9) rfl _ rfl h hhw2 ?_)
        | ((with_reducible (show wpList _ _ _ (⟨some 52, _, _, _, _, _⟩ :: _) _ _)); refine wpList_ds (o := ⟨some 52, _, _, _, _, _⟩) rfl (.tmp 2) rfl _ rfl d hdw2 ?_)
        | (go_at_call 15; refine (HBn.out _ hsw2).mono ?_; rintro e w3 ⟨he3, hi3, rfl⟩))
      have hst3 := hst2.ext he3
      have HS3 := Lib.hid hst3
      have Hp3 := Lib.hid (Hp2.out.ext he3)
      have k4 : w3.cell? ⟨hb, 4, none⟩ = some (.int .i64 h.height) := Blk.val hst3.hd 4 _ rfl
      rw [HH.out.1] at k4
      have k6 : w3.cell? ⟨w.heap.size, 6, none⟩ = some (.int .i64 d.keyLength) := Blk.val hst3.ds 6 _ rfl
      have lh := Blk.lt hst3.hd
      have ld := Blk.lt hst3.ds
      clear hst2 hdw2 hhw2 hsw2 Hp2 he3 hst3 HLo HBn
      have HLow := Lib.hid (rfl : lowTo M h d b H = lowTo M h d b H)
      go_upto_region 9 with fail
      cases hbw : bl (lowTo M h d b H) b
      · have hle : (Go.Op.bytesLess b (lowTo M h d b H) || b == lowTo M h d b H) = true := by rw [ble_iff, hbw]; rfl
        clear HLow hbw k4 k6 Hp3 HH HG hw1 hnn hH0 hH0N
        generalize lowTo M h d b H = lo at *
        go_wp2_with fail
        refine ⟨⟨k + 1, M, h, items, g8, c8, g10, c10, by omega, by go_num, rfl, rfl, grf_more HGF.out, HS3.out⟩, ?_⟩
        simp [intOf]; omega
      · have hle : (Go.Op.bytesLess b (lowTo M h d b H) || b == lowTo M h d b H) = false := by rw [ble_iff, hbw]; rfl
        by_cases hbK : (b.length : Int) ≤ d.keyLength
        case' neg =>
          have hgt : d.keyLength < (b.length : Int) := by omega
          clear HLow hbw k4 Hp3 HH HG hw1 hnn hH0 hH0N hbK
          generalize lowTo M h d b H = lo at *
          go_wp2_with fail
          refine ⟨⟨k + 1, M, h, items, g8, c8, g10, c10, by omega, by go_num, rfl, rfl, grf_more HGF.out, HS3.out⟩, ?_⟩
          simp [intOf]; omega
        have hgt : decide (d.keyLength < (b.length : Int)) = false := by simp; omega
        have hgtN : ¬ d.keyLength < (b.length : Int) := by omega
        obtain ⟨W, g', hgo, hW1, hWl, hnd, hfd, hpg, hb0, hbn, hf1, hf2, hstep⟩ := grf_step HGF.out (by omega) (b := b) (by rw [HH.out.2.1]; exact hbw) hbK
        rw [HH.out.2.1] at hgo hWl hpg
        rw [HH.out.1] at hfd
        have hfin := HG.out.fin
        have hka := HA.out
        obtain ⟨g, hg⟩ : ∃ g : Hd, g = { h with fin := h.fin + 1 + d.area } := ⟨_, rfl⟩
        have hgf : g.fin = h.fin + 1 + d.area := by rw [hg]
        have hzg : door22 g d = 0 := by
          have h5 := HG.out.h5 (by omega)
          have hr := HG.out.root
          have h0 := HG.out.tree.h0
          have hke := HG.out.tree.keyed
          unfold door22
          rw [if_pos]
          simp only [Bool.and_eq_true, decide_eq_true_eq]
          rw [hg]
          refine ⟨⟨⟨⟨⟨⟨hke, ?_⟩, ?_⟩, ?_⟩, ?_⟩, ?_⟩, ?_⟩ <;> simp only <;> omega
        have HAd : Hid (∀ Wd q c, Strs Wd (some ⟨g8, 0, none⟩) M → Ints Wd q (pathTo M h d b H) → Calls Try.prog 9 #[.iface 28 (.slice (some ⟨g8, 0, none⟩) M.length c8), .agg #[.int .i64 g.applied, .int .i64 g.count, .int .i64 g.fin, .int .i64 g.root, .int .i64 g.height, .int .i64 g.splits, .int .i64 g.areas], .agg #[.int .i64 d.id, .int .i64 d.org, .int .i64 d.format, .int .i64 d.length, .int .i64 d.block, .int .i64 d.keyAt, .int .i64 d.keyLength, .int .i64 d.interval, .int .i64 d.area, .int .i64 d.freeInterval, .int .i64 d.freeArea, .int .i64 d.base, .int .i64 d.altAt, .int .i64 d.altLength, .bool d.unique, .int .i64 d.cls, .string ⟨d.volume.toArray⟩, .string ⟨d.owner.toArray⟩, .int .i64 d.created, .int .i64 d.expires, .bool d.archived], .slice q n1 c, .string ⟨b.toArray⟩, .int .i64 (h.fin + 1)] Wd fun e w' => Ext Wd w' ∧ ∃ L' q c, L'.Perm W ∧ e = .returned (.tuple #[.agg #[.int .i64 g'.applied, .int .i64 g'.count, .int .i64 g'.fin, .int .i64 g'.root, .int .i64 g'.height, .int .i64 g'.splits, .int .i64 g'.areas], .slice q W.length c, .int .i64 0]) ∧ w'.ownsRow Wd.heap.size 45 2 (.slice q W.length c) W.length (wrC L')) := Lib.hid (fun Wd q c hs1 hp1 => by
          refine Add_any (some ⟨g8, 0, none⟩) c8 M.length M g g' d H q c n1 b (h.fin + 1) W Wd hs1 rfl HH.out.2.2.2.2.2.2 hzg (by rw [hg]; exact HH.out.1) ?_ ?_ ?_ HH.out.2.2.1 hb0 (by omega) (by omega) ?_ hW1 (by omega) (fun x hx => by have := hpg x hx; omega) hnd
          · rw [hg, erTo_fin]; exact HH.out.2.2.2.2.1
          · intro j hj
            have hT := HG.out.tree
            have := (path_idx (key := b) hT.h0 hT.sub hT.nodup HG.out.bases (j := j) (by rw [HH.out.2.1]; exact hj)).1
            rw [hg, pgAt_fin, ndAt_fin]
            exact this
          · rw [hg, pathTo_fin]; exact hp1
          · rw [hg, stepsTo_fin]; exact hgo)
        have hwa : IntKind.i64.wrap (h.fin + 1) = h.fin + 1 := IntWalk.i64_in _ (by omega)
        have hwb : IntKind.i64.wrap (h.fin + 1 + d.area) = h.fin + 1 + d.area := IntWalk.i64_in _ (by omega)
        have hwc : IntKind.i64.wrap (2 * ((H : Nat) : Int)) = 2 * ((H : Nat) : Int) := IntWalk.i64_in _ (by omega)
        have hwd : IntKind.i64.wrap (2 * ((H : Nat) : Int) + 1) = 2 * ((H : Nat) : Int) + 1 := IntWalk.i64_in _ (by omega)
        have hwe : IntKind.i64.wrap (g'.fin - g.fin) = g'.fin - g.fin := IntWalk.i64_in _ (by omega)
        have hn1 := HH.out.2.2.1
        have hlt1 : decide (2 * ((H : Nat) : Int) + 1 < ((W.length : Nat) : Int)) = false := by simp; omega
        have hlt1N : ¬ 2 * H + 1 < W.length := by omega
        have hlt2 : decide (((n1 : Nat) : Int) < g'.fin - g.fin) = false := by simp; omega
        have hlt2N : ¬ ((n1 : Nat) : Int) < g'.fin - g.fin := by omega
        have HN := Lib.hid (And.intro hgo (And.intro hW1 (And.intro hWl (And.intro hpg (And.intro hbn (And.intro hgf (And.intro hg hstep)))))))
        have Hbw := Lib.hid hbw
        have Hn1 := Lib.hid hn1
        clear hgo hW1 hWl hnd hfd hpg hb0 hbn hf1 hf2 hstep hka hg hgf hzg hbw hn1 HLow hH0 hH0N
        have k2 : w3.cell? ⟨hb, 2, none⟩ = some (.int .i64 h.fin) := Blk.val HS3.out.hd 2 _ rfl
        have k8 : w3.cell? ⟨w.heap.size, 8, none⟩ = some (.int .i64 d.area) := Blk.val HS3.out.ds 8 _ rfl
        have hhw3 := HS3.out.hd
        generalize lowTo M h d b H = lo at *
        go_upto_region 11 with (first
          | ((with_reducible (show wpList _ _ _ (⟨some 90, _, _, _, _, _⟩ :: _) _ _)); refine wpList_hd (o := ⟨some 90, _, _, _, _, _⟩) rfl (.tmp 9) rfl _ rfl h hhw3 ?_))
        have hxA := Ext.alloc w3 (.cells #[.int .i64 h.applied, .int .i64 h.count, .int .i64 h.fin, .int .i64 h.root, .int .i64 h.height, .int .i64 h.splits, .int .i64 h.areas] 30)
        refine wp_name (fun w4 => Ext w3 w4 ∧ HdAt w4 w3.heap.size h) ⟨hxA, Blk.new w3 _⟩ ?_
        clear hxA k2 k8 hhw3 k4 k6 lh ld
        have hzb := Blk.lt HS3.out.hd
        generalize hgb : w3.heap.size = gb at *
        rintro w4 ⟨hx4, hg4⟩
        have hst4 := HS3.out.ext hx4
        have k2 : w4.cell? ⟨hb, 2, none⟩ = some (.int .i64 h.fin) := Blk.val hst4.hd 2 _ rfl
        have k8 : w4.cell? ⟨w.heap.size, 8, none⟩ = some (.int .i64 d.area) := Blk.val hst4.ds 8 _ rfl
        have kg : w4.cell? ⟨gb, 2, none⟩ = some (.int .i64 h.fin) := Blk.val hg4 2 _ rfl
        have fg := Blk.free hg4 2
        have lg := Blk.lt hg4
        have lh := Blk.lt hst4.hd
        have ld := Blk.lt hst4.ds
        go_upto_region 13 with fail
        have hcg := Chg.setCell (w := w4) (g := gb) (i := 2) (v := .int .i64 (h.fin + 1 + d.area))
        refine wp_name (fun w5 => Ext w3 w5 ∧ HdAt w5 gb g) ⟨hcg.ext hx4 (by omega), by rw [HN.out.2.2.2.2.2.2.1]; exact Blk.setCell hg4⟩ ?_
        clear hcg hst4 k2 k8 kg fg lg lh ld hx4 hg4
        rintro w5 ⟨hx5, hg5⟩
        have hst5 := HS3.out.ext hx5
        have hp5 := Hp3.out.ext hx5
        have hsw5 := own_strsX hst5.mr
        have hdw5 := hst5.ds
        have lh5 := hst5.hd
        go_upto_region 14 with (first
          | ((with_reducible (show wpList _ _ _ (⟨some 102, _, _, _, _, _⟩ :: _) _ _)); refine wpList_hd (o := ⟨some 102, _, _, _, _, _⟩) rfl (.tmp 18) rfl _ rfl g hg5 ?_)
          | ((with_reducible (show wpList _ _ _ (⟨some 103, _, _, _, _, _⟩ :: _) _ _)); refine wpList_ds (o := ⟨some 103, _, _, _, _, _⟩) rfl (.tmp 2) rfl _ rfl d hdw5 ?_)
          | (go_at_call 9; refine (HAd.out _ _ _ hsw5 hp5).mono ?_; rintro e w6 ⟨he6, L6, q6, c6, hP6, rfl, ho6⟩))
        have hx7 := he6.trans (Ext.alloc w6 (.cells #[.int .i64 g'.applied, .int .i64 g'.count, .int .i64 g'.fin, .int .i64 g'.root, .int .i64 g'.height, .int .i64 g'.splits, .int .i64 g'.areas] 30))
        refine wp_name (fun w7 => Ext w3 w7 ∧ HdAt w7 gb g ∧ HdAt w7 w6.heap.size g' ∧ Wrts w7 q6 L6) ⟨hx5.trans hx7, hg5.ext hx7, Blk.new w6 _, (own_wrts ho6).ext (Ext.alloc w6 _)⟩ ?_
        have HP6 := Lib.hid hP6
        have hlab : gb < w6.heap.size := by have := Blk.lt hg5; have := he6.size; omega
        clear hx7 hst5 hp5 hsw5 hdw5 lh5 hx5 hg5 he6 ho6 hP6 HAd
        generalize w6.heap.size = ab at *
        rintro w7 ⟨hx7, hg7, ha7, hw7⟩
        have hst7 := HS3.out.ext hx7
        have k4 : w7.cell? ⟨hb, 4, none⟩ = some (.int .i64 h.height) := Blk.val hst7.hd 4 _ rfl
        rw [HH.out.1] at k4
        have kg : w7.cell? ⟨gb, 2, none⟩ = some (.int .i64 g.fin) := Blk.val hg7 2 _ rfl
        have ka : w7.cell? ⟨ab, 2, none⟩ = some (.int .i64 g'.fin) := Blk.val ha7 2 _ rfl
        have lg := Blk.lt hg7
        have la := Blk.lt ha7
        have lh := Blk.lt hst7.hd
        have HS7 := Lib.hid (And.intro hx7 (And.intro hg7 (And.intro ha7 (And.intro hw7 hst7))))
        clear hx7 hg7 ha7 hw7 hst7
        have hl6 : L6.length = W.length := HP6.out.length_eq
        have Hl6 := Lib.hid hl6
        clear hl6
        generalize hWL : W.length = WL at *
        have HWL := Lib.hid hWL
        clear hWL
        go_upto_region 17 with fail
        have HPA := Lib.hid (rfl : pathTo M h d b H = pathTo M h d b H)
        generalize hPA : pathTo M h d b H = PA at *
        have HPA2 := Lib.hid hPA
        clear hPA HPA
        go_loopw [138] (fun i wr => ∃ k2 : Nat, k2 ≤ WL ∧ i = .int .i64 k2 ∧ Ext w7 wr) (fun i _ => WL - (intOf i).toNat)
        case atStart => exact ⟨0, Nat.zero_le _, rfl, Ext.refl _⟩
        case round =>
          obtain ⟨k2, hk2, rfl, hex2⟩ := hrel
          have HS8 := Lib.hid (HS7.out.2.2.2.2.ext hex2)
          by_cases hlt3 : k2 < WL
          · have hlt3I : (k2 : Int) < WL := by omega
            have hw8 := HS7.out.2.2.2.1.ext hex2
            have hl8 : k2 < L6.length := by rw [Hl6.out]; exact hlt3
            rcases hw8 with h0 | ⟨vb, vo, rfl, ⟨hvl, _⟩, hvc⟩
            · rw [h0] at hl8; simp at hl8
            obtain ⟨ca, cb⟩ := hvc k2 hl8
            have hxm : L6.getD k2 (0, []) ∈ W := HP6.out.mem_iff.1 (by
              have e : L6.getD k2 (0, []) = L6[k2] := by simp [List.getD, hl8]
              rw [e]; exact List.getElem_mem _)
            have hpx := HN.out.2.2.2.1 _ hxm
            have Hex2 := Lib.hid hex2
            clear hvc hl8 hxm hex2
            generalize L6.getD k2 (0, []) = x at *
            obtain ⟨pg, sx⟩ := x
            simp only at ca cb hpx
            have hold : oldJ g.fin pg PA H = true := by
              have hpl := HH.out.2.2.2.1
              have hn1 := Hn1.out
              have e : (pathTo M h d b H).length = n1 := by rw [HPA2.out]; exact hpl
              refine oldJ_yes ?_ (by rw [← HPA2.out, e]; omega)
              rcases hpx.2.2.2 with ⟨j, hj, e2⟩ | h2
              · exact .inl ⟨j, hj, by rw [← HPA2.out, pathTo_at _ _ _ _ _ (by omega)]; exact e2⟩
              · exact .inr (by rw [HN.out.2.2.2.2.2.1]; exact h2)
            have hlen3 : (((sx.length : Nat) : Int) != d.interval) = false := by rw [hpx.2.2.1]; simp
            have Hold := Lib.hid hold
            clear hold hpx
            go_upto_region 19 with fail
            have hx8 := Ext.alloc wr (.cells #[.int .i64 pg, .string ⟨sx.toArray⟩] 45)
            refine wp_name (fun w8 => Ext wr w8 ∧ Blk w8 wr.heap.size (.cells #[.int .i64 pg, .string ⟨sx.toArray⟩] 45)) ⟨hx8, Blk.new wr _⟩ ?_
            clear hx8 ca cb hvl
            have hxw := Hex2.out.size
            generalize wr.heap.size = xb at *
            rintro w8 ⟨hx8, hb8⟩
            have Hx8 := Lib.hid (Hex2.out.trans hx8)
            have hst8 := HS7.out.2.2.2.2.ext Hx8.out
            have hg8 := HS7.out.2.1.ext Hx8.out
            have k4 : w8.cell? ⟨hb, 4, none⟩ = some (.int .i64 h.height) := Blk.val hst8.hd 4 _ rfl
            rw [HH.out.1] at k4
            have kg : w8.cell? ⟨gb, 2, none⟩ = some (.int .i64 g.fin) := Blk.val hg8 2 _ rfl
            have kx : w8.cell? ⟨xb, 0, none⟩ = some (.int .i64 pg) := Blk.val hb8 0 _ rfl
            have ky : w8.cell? ⟨xb, 1, none⟩ = some (.string ⟨sx.toArray⟩) := Blk.val hb8 1 _ rfl
            have k7 : w8.cell? ⟨w.heap.size, 7, none⟩ = some (.int .i64 d.interval) := Blk.val hst8.ds 7 _ rfl
            have lg := Blk.lt hg8
            have lx := Blk.lt hb8
            have lh := Blk.lt hst8.hd
            have ld := Blk.lt hst8.ds
            obtain ⟨pb, po, rfl, hpl8, hpc8⟩ := (Hp3.out.ext (HS7.out.1.trans Hx8.out)).at 0 (by have := HH.out.2.2.2.1; have := Hn1.out; rw [← HPA2.out, pathTo_len]; omega)
            have hHc : H ≤ c2 := by have := Hn1.out; omega
            have Hpc8 := Lib.hid hpc8
            clear hst8 hg8 hb8 hx8 hpc8
            go_upto_region 21 with fail
            have hPAl : H < PA.length := by rw [← HPA2.out, pathTo_len]; omega
            go_loopw [152, 24] (fun i o wr => ∃ j : Nat, j ≤ H ∧ i = .int .i64 j ∧ o = .bool (oldJ g.fin pg PA j) ∧ wr = w8) (fun i _ _ => H - (intOf i).toNat)
            case atStart => exact ⟨0, Nat.zero_le _, rfl, by simp [oldJ], rfl⟩
            case round =>
              obtain ⟨j, hj, rfl, rfl, rfl⟩ := hrel
              by_cases hjl : j < H
              · have hjlI : (j : Int) < H := by omega
                have hcj := Hpc8.out j (by omega)
                have HJ := Lib.hid (oldJ_step g.fin pg PA (j := j) (by omega))
                generalize PA.getD j 0 = y at *
                generalize oldJ g.fin pg PA j = o0 at *
                cases o0
                · go_wp2_with fail
                  refine ⟨⟨j + 1, by omega, by go_num, by rw [HJ.out]; rfl, by first | trivial | rfl⟩, ?_⟩
                  simp [intOf]; omega
                · go_wp2_with fail
                  refine ⟨⟨j + 1, by omega, by go_num, by rw [HJ.out]; rfl, by first | trivial | rfl⟩, ?_⟩
                  simp [intOf]; omega
              · have e : oldJ g.fin pg PA j = true := by rw [show j = H by omega]; exact Hold.out
                generalize oldJ g.fin pg PA j = o0 at *
                subst e
                go_wp2_with fail
                refine ⟨⟨k2 + 1, by omega, by go_num, Hx8.out⟩, ?_⟩
                simp [intOf]; omega
          · clear ka kg k4 lg la lh hlt1 hlt1N hlt2 hlt2N hwa hwb hwc hwd hwe
            refine wp_name (fun wL => Ext w7 wL) hex2 ?_
            clear HS8 hex2
            rintro wL hexL
            have HxL := Lib.hid hexL
            clear hexL
            have hil60 : items.length ≤ 61 := by have := HG.out.len; omega
            go_upto_region 29 with fail
            go_loopw [27] (fun i wr => ∃ j : Nat, j ≤ items.length ∧ i = .int .i64 j ∧ (∀ t, t < j → bl b (items.getD t ([], 0)).1 = false) ∧ Ext wL wr) (fun i _ => items.length - (intOf i).toNat)
            case atStart => exact ⟨0, Nat.zero_le _, rfl, fun t ht => absurd ht (Nat.not_lt_zero _), Ext.refl _⟩
            case round =>
              obtain ⟨j, hj, rfl, hpre, hexj⟩ := hrel
              have hst9 := HS7.out.2.2.2.2.ext (HxL.out.trans hexj)
              have HS9 := Lib.hid hst9
              have hine : 0 < items.length := List.length_pos_iff.2 (sub_ne HG.out.tree.sub)
              have hspl : (j < items.length ∧ bl (entAt items j).1 b = true) ∨ (j < items.length ∧ bl (entAt items j).1 b = false) ∨ j = items.length := by
                by_cases h1 : j < items.length
                · cases h2 : bl (entAt items j).1 b
                  · exact .inr (.inl ⟨h1, rfl⟩)
                  · exact .inl ⟨h1, rfl⟩
                · exact .inr (.inr (by omega))
              have hcell : j < items.length → ∃ s x, (entAt items j).1 = s ∧ g10 < wr.heap.size ∧ wr.cell? ⟨g10, j * 2, none⟩ = some (.string ⟨s.toArray⟩) ∧ wr.cell? ⟨g10, j * 2 + 1, none⟩ = some (.int .i64 x) := fun h1 => by
                obtain ⟨gi, oi, hq, hgil, hic⟩ := (own_cellsND hst9.ir).at j h1
                simp only [Option.some.injEq, Addr.mk.injEq, and_true] at hq
                obtain ⟨rfl, rfl⟩ := hq
                obtain ⟨ic0, ic1⟩ := hic j h1
                rw [Nat.zero_add] at ic0 ic1
                exact ⟨_, _, rfl, hgil, ic0, ic1⟩
              have hbase : ∀ x ∈ items, x.1 ≠ b := HN.out.2.2.2.2.1
              clear hst9
              rcases hspl with ⟨hjl, hxb⟩ | ⟨hjl, hxb⟩ | hjl
              · have hjlI : (j : Int) < items.length := by omega
                obtain ⟨sj, xj, es, hgj, hc0, hc1⟩ := hcell hjl
                have hbs : bl b (items.getD j ([], 0)).1 = false := bl_asymm hxb
                have Hjl := Lib.hid (And.intro hjl (And.intro hpre (And.intro hexj hbs)))
                rw [es] at hxb
                clear hcell es hbase hpre hbs
                go_wp2_with fail
                refine ⟨⟨j + 1, by have := Hjl.out.1; omega, by go_num, fun t ht => ?_, Hjl.out.2.2.1⟩, ?_⟩
                · by_cases e : t = j
                  · rw [e]; exact Hjl.out.2.2.2
                  · exact Hjl.out.2.1 t (by omega)
                · have := Hjl.out.1
                  simp [intOf]; omega
              case' inr.inl =>
                have hjlI : (j : Int) < items.length := by omega
                obtain ⟨sj, xj, es, hgj, hc0, hc1⟩ := hcell hjl
                have hcut := insIt_cut (b := b) (base := h.fin + 1) hj hpre (fun _ => bl_of_not hxb (by
                  have e : items.getD j ([], 0) = items[j] := by simp [List.getD, hjl]
                  rw [e]; exact hbase _ (List.getElem_mem _)))
                rw [es] at hxb
                clear es
              case' inr.inr =>
                have hcut := insIt_cut (b := b) (base := h.fin + 1) hj hpre (fun h9 => by omega)
                have hjN : ¬ j < items.length := by omega
                clear hjl
              all_goals
                have HCut := Lib.hid hcut
                clear hcut hcell hbase hpre
                go_upto_region 31 with fail
                refine wp_name (fun wJ => Ext w7 wJ) (HxL.out.trans hexj) ?_
                clear HS9 hexj
                rintro wJ hexJ
                have HSJ := Lib.hid (HS7.out.2.2.2.2.ext hexJ)
                have HXJ := Lib.hid hexJ
                have HI : Hid (Cells wJ (some ⟨g10, 0, none⟩) (entCells items)) := Lib.hid (own_cellsND HSJ.out.ir)
                have lg10 : g10 < wJ.heap.size := by
                  obtain ⟨gi, cur, hq, _, hbi, _⟩ := own_parts HSJ.out.ir hine
                  simp only [Option.some.injEq, Addr.mk.injEq, and_true] at hq
                  rw [hq]; exact Blk.lt hbi
                have hc10 := own_cap HSJ.out.ir
                have hjc : j ≤ c10 := by omega
                clear hexJ
                refine wp_region_pk 200 [(9, [(0, 193), (4, 197), (8, 201)]), (13, [(0, 193), (4, 197), (8, 201), (9, 202)])] (Ext.refl wJ) (by kernel_rfl) (by kernel_rfl) (by kernel_rfl) (by kernel_rfl) (by kernel_rfl) (by kernel_rfl) (gok_any _ _ _) ?_
                simp only [List.take_succ_cons, List.take_zero, List.take_nil, List.drop_succ_cons, List.drop_zero, List.drop_nil, List.map_cons, List.map_nil]
                repeat (first
                  | (refine wpPL_step (o := ⟨some 193, _, _, _, _, _⟩) (NoneF 49 wJ.heap.size) (NoneF.stable _ _) (.inl (by kernel_rfl)) (by kernel_rfl) (by first | exact .inl rfl | exact .inr ⟨_, _, _, rfl, rfl, rfl⟩) ?_ ?_
                     · intro a w' he hr K hK
                       go_simp
                       exact hK _ _ (Ext.alloc _ _) ⟨_, rfl, Blk.new _ _, he.size⟩
                     simp only [setL, List.set_cons_succ, List.set_cons_zero])
                  | (refine wpPL_step (o := ⟨some 197, _, _, _, _, _⟩) (RowsF 49 wJ.heap.size 2 j (entCells (items.take j))) (RowsF.stable _ _ _ _ _) (.inl (by kernel_rfl)) (by kernel_rfl) (by first | exact .inl rfl | exact .inr ⟨_, _, _, rfl, rfl, rfl⟩) ?_ ?_
                     · intro a w' he hr K hK
                       obtain ⟨bb, hb1, hb2, hb3⟩ := hr 193 (by simp [Oper.looksAt, Op.operands, Call.operands])
                       have hs := hr 196 (by simp [Oper.looksAt, Op.operands, Call.operands])
                       refine wp_append0 (.tmp 193) (.tmp 196) 31 49 rfl wJ.heap.size (.agg #[.string ByteArray.empty, .int .i64 0]) 2 24 Try.underlying31 infoItem rfl bb hb1 hb2 hb3 _ j _ (entCells (items.take j)) hs (by rw [entCells_len, List.length_take]; omega) (fun h0 => cells_srcY (by rw [entCells_take]; exact (HI.out.ext he).take _) (by intro e; have := congrArg List.length e; rw [entCells_len, List.length_take] at this; simp at this; omega)) (by omega) (by decide) he.size ?_
                       intro v' w'' ho' he'
                       obtain ⟨q', c', rfl⟩ := own_slice ho'
                       exact hK _ _ he' ⟨q', c', rfl, ho'⟩
                     simp only [setL, List.set_cons_succ, List.set_cons_zero])
                  | (refine wpPL_det (o := ⟨some 200, _, _, _, _, _⟩) (v := .agg #[.string ⟨b.toArray⟩, .int .i64 (h.fin + 1)]) (by kernel_rfl) (by first | exact .inl rfl | exact .inr ⟨_, _, _, rfl, rfl, rfl⟩) ?_ ?_
                     · intro a w' he hr K hK
                       have h1 := hr 198 (by simp [Oper.looksAt, Op.operands])
                       have h2 := hr 199 (by simp [Oper.looksAt, Op.operands])
                       refine wp_build 49 #[(0, .tmp 198), (1, .tmp 199)] rfl ?_ ?_
                       · rw [(show ((#[(0, Operand.tmp 198), (1, Operand.tmp 199)] : Array (Nat × Operand)).map fun (i, x) => (i, a.eval x)).toList = [(0, .string ⟨b.toArray⟩), (1, .int .i64 (h.fin + 1))] from by simp only [List.map_toArray, List.map_cons, List.map_nil]; rw [show a.eval (.tmp 198) = _ from h1, show a.eval (.tmp 199) = _ from h2]), itBuilt ⟨b.toArray⟩ (h.fin + 1)]; rfl
                       · rw [(show ((#[(0, Operand.tmp 198), (1, Operand.tmp 199)] : Array (Nat × Operand)).map fun (i, x) => (i, a.eval x)).toList = [(0, .string ⟨b.toArray⟩), (1, .int .i64 (h.fin + 1))] from by simp only [List.map_toArray, List.map_cons, List.map_nil]; rw [show a.eval (.tmp 198) = _ from h1, show a.eval (.tmp 199) = _ from h2]), itBuilt ⟨b.toArray⟩ (h.fin + 1)]
                         exact hK _ (Ext.refl _)
                     simp only [setL, List.set_cons_succ, List.set_cons_zero])
                  | (refine wpPL_step (o := ⟨some 201, _, _, _, _, _⟩) (Fresh 1 1 (.cells #[.string ⟨b.toArray⟩, .int .i64 (h.fin + 1)] 49)) (Fresh.stable _ _ _) (.inl (by kernel_rfl)) (by kernel_rfl) (by first | exact .inl rfl | exact .inr ⟨_, _, _, rfl, rfl, rfl⟩) ?_ ?_
                     · intro a w' he hr K hK
                       simp [Reads, Oper.looksAt, Op.operands, Call.operands, factAt, Is] at hr
                       go_simp
                       exact hK _ _ (Ext.alloc _ _) (Fresh.new _ _ _ _)
                     simp only [setL, List.set_cons_succ, List.set_cons_zero])
                  | (refine wpPL_pivot (o := ⟨some 202, _, _, _, _, _⟩) (RowsF 49 wJ.heap.size 2 (j + 1) (entCells (items.take j ++ [(b, h.fin + 1)]))) (RowsF.stable _ _ _ _ _) (.inl (by kernel_rfl)) (by kernel_rfl) (by first | exact .inl rfl | exact .inr ⟨_, _, _, rfl, rfl, rfl⟩) ?_ ?_
                     · intro a w' he hr K hK
                       obtain ⟨q1, c1, h1, ho1⟩ := hr 197 (by simp [Oper.looksAt, Op.operands, Call.operands])
                       obtain ⟨bb, hb1, hb2⟩ := hr 201 (by simp [Oper.looksAt, Op.operands, Call.operands])
                       refine wp_app (.tmp 197) (.tmp 201) 31 49 rfl wJ.heap.size (.agg #[.string ByteArray.empty, .int .i64 0]) 2 24 Try.underlying31 infoItem rfl (by decide) _ j _ h1 ho1 bb [.string ⟨b.toArray⟩, .int .i64 (h.fin + 1)] hb1 hb2 rfl (by intro u hu; simp at hu; rcases hu with rfl | rfl <;> rfl) (by omega) (by decide) he.size ?_
                       intro v' w'' ho' hg
                       have hbl := Below.of_grown (B := wJ.heap.size) hg ho1 (Nat.le_refl _) he.size
                       obtain ⟨q', c', rfl⟩ := own_slice ho'
                       exact hK _ _ hbl ⟨q', c', rfl, by rw [entCells_appY]; exact ho'⟩ (turned_any _ _ _ _)
                     simp only [setL, List.set_cons_succ, List.set_cons_zero])
                  | (refine wpPL_pivot (o := ⟨some 206, _, _, _, _, _⟩) (RowsF 49 wJ.heap.size 2 (j + 1 + (items.length - j)) (entCells ((items.take j ++ [(b, h.fin + 1)]) ++ items.drop j))) (RowsF.stable _ _ _ _ _) (.inl (by kernel_rfl)) (by kernel_rfl) (by first | exact .inl rfl | exact .inr ⟨_, _, _, rfl, rfl, rfl⟩) ?_ ?_
                     · intro a w' he hr K hK
                       obtain ⟨q1, c1, h1, ho1⟩ := hr 202 (by simp [Oper.looksAt, Op.operands, Call.operands])
                       have hs := hr 205 (by simp [Oper.looksAt, Op.operands, Call.operands])
                       refine wp_appk (.tmp 202) (.tmp 205) 31 49 rfl wJ.heap.size (.agg #[.string ByteArray.empty, .int .i64 0]) 2 24 Try.underlying31 infoItem rfl (by decide) _ (j + 1) _ h1 ho1 _ (items.length - j) _ (entCells (items.drop j)) hs (by first | rfl | (split <;> rfl)) (by rw [entCells_len, List.length_drop]) (by first | (split; (exact .inl (by rw [List.drop_eq_nil_of_le (by omega)]; rfl)); (rw [entCells_drop]; have h8 := (HI.out.ext he).drop (j * 2); rwa [Nat.zero_add] at h8)) | (rw [entCells_drop]; have h8 := (HI.out.ext he).drop (j * 2); rwa [Nat.zero_add] at h8)) (entCells_one _) (by omega) (by decide) he.size ?_
                       intro v' w'' ho' hg
                       have hbl := Below.of_grown (B := wJ.heap.size) hg ho1 (Nat.le_refl _) he.size
                       obtain ⟨q', c', rfl⟩ := own_slice ho'
                       exact hK _ _ hbl ⟨q', c', rfl, by rw [entCells_appY (items.take j ++ [(b, h.fin + 1)])]; exact ho'⟩ (turned_any _ _ _ _)
                     simp only [setL, List.set_cons_succ, List.set_cons_zero])
                  | (refine wpPL_move _ _ (by kernel_rfl) (by first | exact .inl rfl | exact .inr ⟨_, _, _, rfl, rfl, rfl⟩) (by first | exact .inl rfl | exact .inr rfl) rfl (by first | exact Is.stable _ | exact RowsF.stable _ _ _ _ _ | exact NoneF.stable _ _ | exact Fresh.stable _ _ _ | exact AppF.stable _ | exact WrF.stable _ | exact PtrF.stable _ _ | exact PlF.stable _ _) (by first | exact .inr (Is.strong _ _ _) | exact .inr (AppF.strong _ _ _ _ (by decide)) | exact .inr (WrF.strong _ _ _ _ (by decide)) | exact .inr (RowsF.strong _ _ _ _ _ _ _ _ (by decide)) | exact .inl (by kernel_rfl)) ?_
                     simp only [setL, List.set_cons_succ, List.set_cons_zero, List.getD_cons_succ, List.getD_cons_zero])
                  | (apply wpPL_det (by kernel_rfl) (by first | exact .inl rfl | exact .inr ⟨_, _, _, rfl, rfl, rfl⟩)
                     · intro a w' he hr K hK
                       simp [Reads, Oper.looksAt, Op.operands, Call.operands, factAt, Is] at hr
                       have hx := he.cell
                       go_simp
                       try go_bits
                       try (rw [if_neg (by omega)]; go_simp)
                       first
                         | exact hK _ (Ext.refl _)
                     simp only [setL, List.set_cons_succ, List.set_cons_zero]))
                intro w2 he2
                simp only [killL, killIn, List.foldl_cons, List.foldl_nil, List.set_cons_succ, List.set_cons_zero]
                repeat (first | with_reducible refine rest_is _ _ _ _ ?_ | (with_reducible refine rest_fact _ _ _ _ ?_; intro _ _) | with_reducible refine rest_end _ _ ?_)
                simp only [List.reverse_cons, List.reverse_nil, List.nil_append, List.cons_append]
                rename_i x10 h10 y1 z1 y2 z2 y3 z3 y4 z4 x206 h206
                obtain ⟨qi, ci, rfl, hir⟩ := h10
                clear h206 z1 z2 z3 z4
                have hll : j + 1 + (items.length - j) = (insIt b (h.fin + 1) items).length := by rw [HCut.out]; simp; omega
                have hcc : (items.take j ++ [(b, h.fin + 1)]) ++ items.drop j = insIt b (h.fin + 1) items := by rw [HCut.out]; simp
                rw [hll, hcc] at hir
                simp only [hll]
                have Hir := Lib.hid (own_le hir HSJ.out.ex.size)
                obtain ⟨gi, cur, hqi, _⟩ := own_parts hir (by rw [← hll]; omega)
                clear hir
                subst hqi
                have HX2 := Lib.hid (HXJ.out.trans he2)
                have HS2 := Lib.hid (HSJ.out.ext he2)
                have HLn := Lib.hid hll
                clear hll hcc he2 HI lg10 hc10 hjc HCut HXJ HSJ
                have HPu : Hid (∀ W, Ext w2 W → Calls Try.prog 10 #[.slice (some ⟨g8, 0, none⟩) M.length c8, .slice q6 WL c6] W fun e w' => ∃ v, e = .returned v ∧ Ext W w' ∧ RowsF 9 w.heap.size 1 (putsP M L6).length ((putsP M L6).map fun s : List UInt8 => .string ⟨s.toArray⟩) v w') := Lib.hid (fun W e => by
                  have hsm := HH.out.2.2.2.2.2.2
                  have hml := HG.out.mlen
                  have hfi := HG.out.fin
                  refine (Put_any ⟨g8, 0, none⟩ q6 M.length c8 WL c6 M L6 W (own_strsX (HS2.out.ext e).mr) rfl (HS7.out.2.2.2.1.ext (HX2.out.trans e)) (by rw [Hl6.out]) (by omega) (by have := HN.out.2.2.1; have := HWL.out; omega)).mono ?_
                  rintro e' w' ⟨a1, v, a2, a3⟩
                  obtain ⟨qv, cv, rfl⟩ := own_slice a3
                  exact ⟨_, a2, a1, qv, cv, rfl, own_le a3 (HS2.out.ext e).ex.size⟩)
                go_upto_region 32 with fail
                have ha2 := HS7.out.2.2.1.ext HX2.out
                refine wp_region_mk 5 (Ext.refl w2) (by kernel_rfl) (by kernel_rfl) (by kernel_rfl) ?_
                simp only [List.take_succ_cons, List.take_zero, List.take_nil, List.drop_succ_cons, List.drop_zero, List.drop_nil, List.map_cons, List.map_nil]
                repeat (first
                  | (refine wpML_det (o := ⟨some 210, _, _, _, _, _⟩) (v := .agg #[.int .i64 g'.applied, .int .i64 g'.count, .int .i64 g'.fin, .int .i64 g'.root, .int .i64 g'.height, .int .i64 g'.splits, .int .i64 g'.areas]) rfl ?_ ?_
                     · intro a w' he hr K hK
                       simp [Reads, Oper.looksAt, Op.operands, factAt, Is] at hr
                       exact wp_load_row 30 (.tmp 20) rfl (ab) (by go_simp) _ _ _ _ (he.blk _ _ ha2) hdDesc rfl hdSize (hK _ (Ext.refl _))
                     simp only [setL, List.set_cons_succ, List.set_cons_zero])
                  | (refine wpML_move _ _ rfl (by first | exact .inl rfl | exact .inr rfl) rfl (by first | exact Is.stable _ | exact AppF.stable _ | exact WrF.stable _ | exact PtrF.stable _ _ | exact IfcF.stable (Fresh.stable _ _ _) _ | exact PairF.stable (RowF.stable _ _ _ _) _ | exact RowF.stable _ _ _ _ | exact Fresh.stable _ _ _) ?_
                     simp only [setL, List.set_cons_succ, List.set_cons_zero, List.getD_cons_succ, List.getD_cons_zero])
                  | (refine wpML_moveC _ rfl (by first | exact .inl rfl | exact .inr rfl) ?_
                     simp only [setL, List.set_cons_succ, List.set_cons_zero])
                  | (apply wpML_det rfl
                     · intro a w' he hr K hK
                       simp [Reads, Oper.looksAt, Op.operands, Call.operands, factAt, Is] at hr
                       have hx := he.cell
                       go_simp
                       try go_bits
                       try (rw [if_neg (by omega)]; go_simp)
                       first
                         | exact hK _ (Ext.refl _)
                     simp only [setL, List.set_cons_succ, List.set_cons_zero])
                  | (refine wpML_fact (o := ⟨some 209, _, _, _, _, _⟩) (RowsF 9 w.heap.size 1 (putsP M L6).length ((putsP M L6).map fun s : List UInt8 => .string ⟨s.toArray⟩)) (RowsF.stable _ _ _ _ _) rfl ?_ ?_
                     · intro a w' he hr K hK
                       simp [Reads, Oper.looksAt, Op.operands, Call.operands, factAt, Is] at hr
                       go_simp
                       refine ((HPu.out w' he)).mono ?_
                       rintro e w'' ⟨v, rfl, he', hf⟩
                       exact hK _ _ he' hf
                     simp only [setL, List.set_cons_succ, List.set_cons_zero])
                  | (apply wpML_det rfl
                     · intro a w' he hr K hK
                       simp [Reads, Oper.looksAt, Op.operands, Call.operands, factAt, Fresh] at hr
                       obtain ⟨b, hr1, hr2⟩ := hr
                       go_simp
                       exact hK _ (Ext.refl _)
                     simp only [setL, List.set_cons_succ, List.set_cons_zero]))
                intro w2 he2
                repeat (first | with_reducible refine rest_is _ _ _ _ ?_ | (with_reducible refine rest_fact _ _ _ _ ?_; intro _ _) | with_reducible refine rest_end _ _ ?_)
                simp only [List.reverse_cons, List.reverse_nil, List.nil_append, List.cons_append]
                rename_i x8 h8 x209 h209
                obtain ⟨qm, cm, rfl, hmr⟩ := h8
                clear h209
                have hmpos : 1 ≤ (putsP M L6).length := by have := (putsP_len M L6).1; have := HS2.out.mp; omega
                have Hmr := Lib.hid hmr
                obtain ⟨gm, curm, hqm, _⟩ := own_parts hmr (by omega)
                clear hmr
                subst hqm
                have hS3 := HS2.out.ext he2
                have hbh := hS3.hd
                have Hir3 := Lib.hid (own_ext Hir.out he2)
                have HS3' := Lib.hid hS3
                have Hmp := Lib.hid hmpos
                clear hS3 he2 hmpos
                go_wp2_with (refine wpList_put (o := ⟨none, _, _, _, _, _⟩) rfl 30 (.tmp 9) (.tmp 210) rfl _ #[.int .i64 g'.applied, .int .i64 g'.count, .int .i64 g'.fin, .int .i64 g'.root, .int .i64 g'.height, .int .i64 g'.splits, .int .i64 g'.areas] rfl rfl _ _ hbh hdSize rfl (hd_one1 g') ?_; intro wZ hbZ hcZ)
                refine ⟨⟨k + 1, putsP M L6, g', insIt b (h.fin + 1) items, gm, cm, gi, ci, by omega, by go_num, rfl, rfl, HN.out.2.2.2.2.2.2.2 L6 HP6.out, ⟨hcZ.ext HS3'.out.ex (by omega), hcZ.blk HS3'.out.ds (by omega), hcZ.blk HS3'.out.rb (by omega), hbZ, own_chgT Hmr.out (by decide) hbh hcZ, own_chgT Hir3.out (by decide) hbh hcZ, Hmp.out⟩⟩, ?_⟩
                simp [intOf]; omega
    · have HS := HSt0
      have HGF := Lib.hid hG
      have hkn : k ≤ 60 := by omega
      have hhd := hst.hd
      have hrb := hst.rb
      have j0 : wr.cell? ⟨hb, 0, none⟩ = some (.int .i64 h.applied) := Blk.val hhd 0 _ rfl
      have j1 : wr.cell? ⟨hb, 1, none⟩ = some (.int .i64 h.count) := Blk.val hhd 1 _ rfl
      have j2 : wr.cell? ⟨hb, 2, none⟩ = some (.int .i64 h.fin) := Blk.val hhd 2 _ rfl
      have j3 : wr.cell? ⟨hb, 3, none⟩ = some (.int .i64 h.root) := Blk.val hhd 3 _ rfl
      have j4 : wr.cell? ⟨hb, 4, none⟩ = some (.int .i64 h.height) := Blk.val hhd 4 _ rfl
      have j5 : wr.cell? ⟨hb, 5, none⟩ = some (.int .i64 h.splits) := Blk.val hhd 5 _ rfl
      have j6 : wr.cell? ⟨hb, 6, none⟩ = some (.int .i64 h.areas) := Blk.val hhd 6 _ rfl
      have lhb := Blk.lt hhd
      have lrb := Blk.lt hrb
      have z0 : wr.cell? ⟨w.heap.size + 1, 0, none⟩ = some (.int .i64 0) := Blk.val hrb 0 _ rfl
      have f0 := Blk.free hrb 0
      have z1 : wr.cell? ⟨w.heap.size + 1, 1, none⟩ = some (.int .i64 0) := Blk.val hrb 1 _ rfl
      have f1 := Blk.free hrb 1
      have z2 : wr.cell? ⟨w.heap.size + 1, 2, none⟩ = some (.int .i64 0) := Blk.val hrb 2 _ rfl
      have f2 := Blk.free hrb 2
      have z3 : wr.cell? ⟨w.heap.size + 1, 3, none⟩ = some (.int .i64 0) := Blk.val hrb 3 _ rfl
      have f3 := Blk.free hrb 3
      have z4 : wr.cell? ⟨w.heap.size + 1, 4, none⟩ = some (.int .i64 0) := Blk.val hrb 4 _ rfl
      have f4 := Blk.free hrb 4
      have z5 : wr.cell? ⟨w.heap.size + 1, 5, none⟩ = some (.int .i64 0) := Blk.val hrb 5 _ rfl
      have f5 := Blk.free hrb 5
      have z6 : wr.cell? ⟨w.heap.size + 1, 6, none⟩ = some (.int .i64 0) := Blk.val hrb 6 _ rfl
      have f6 := Blk.free hrb 6
      have hne : hb ≠ w.heap.size + 1 := by omega
      clear hhd hrb hst hG HSt H0 HG5
      go_upto_region 34 with fail
      go_region
      all_goals
        clear z0 z1 z2 z3 z4 z5 z6 f0 f1 f2 f3 f4 f5 f6 j0 j1 j2 j3 j4 j5 j6
        go_wp2_with fail
        rw [← HOU.out]
        exact grow_fin22 HS.out hkn HGF.out _ rfl rfl rfl rfl
end Go.Proofs.Ytolmoknjmdmpgaa
/- The walk of the law IndexLeads. -/
namespace Go.Proofs.Ytolmoknjmdmpgaa
open Go.RowKit Dsd
theorem short_max {bs : List (List UInt8)} {m l : Nat} (h : shortB bs m l = true) : bs.length ≤ m ∧ ∀ s ∈ bs, s.length ≤ l := by
  unfold shortB at h
  simp only [Bool.and_eq_true, decide_eq_true_eq, List.all_eq_true] at h
  exact ⟨by omega, fun s hs => by have := h.2 s hs; omega⟩
set_option maxRecDepth 100000 in
set_option maxHeartbeats 2000000 in
theorem IndexLeads_any (d : DS) (p : Option Addr) (cap n : Nat) (bs : List (List UInt8)) (key : List UInt8) (w : World) (hs : Strs w p bs) (hn : bs.length = n) (hcap : n ≤ cap) (hcm : cap ≤ maxLen) :
    Calls Try.prog 3 #[.agg #[.int .i64 d.id, .int .i64 d.org, .int .i64 d.format, .int .i64 d.length, .int .i64 d.block, .int .i64 d.keyAt, .int .i64 d.keyLength, .int .i64 d.interval, .int .i64 d.area, .int .i64 d.freeInterval, .int .i64 d.freeArea, .int .i64 d.base, .int .i64 d.altAt, .int .i64 d.altLength, .bool d.unique, .int .i64 d.cls, .string ⟨d.volume.toArray⟩, .string ⟨d.owner.toArray⟩, .int .i64 d.created, .int .i64 d.expires, .bool d.archived], .slice p n cap, .string ⟨key.toArray⟩] w fun e w' => e = .returned (.bool true) ∧ Ext w w' := by
  have hL : n ≤ maxLen := Nat.le_trans hcap hcm
  clear hcap hcm
  have hx0 := Ext.alloc w (.cells #[.int .i64 d.id, .int .i64 d.org, .int .i64 d.format, .int .i64 d.length, .int .i64 d.block, .int .i64 d.keyAt, .int .i64 d.keyLength, .int .i64 d.interval, .int .i64 d.area, .int .i64 d.freeInterval, .int .i64 d.freeArea, .int .i64 d.base, .int .i64 d.altAt, .int .i64 d.altLength, .bool d.unique, .int .i64 d.cls, .string ⟨d.volume.toArray⟩, .string ⟨d.owner.toArray⟩, .int .i64 d.created, .int .i64 d.expires, .bool d.archived] 23)
  have hb0 := Blk.new w (.cells #[.int .i64 d.id, .int .i64 d.org, .int .i64 d.format, .int .i64 d.length, .int .i64 d.block, .int .i64 d.keyAt, .int .i64 d.keyLength, .int .i64 d.interval, .int .i64 d.area, .int .i64 d.freeInterval, .int .i64 d.freeArea, .int .i64 d.base, .int .i64 d.altAt, .int .i64 d.altLength, .bool d.unique, .int .i64 d.cls, .string ⟨d.volume.toArray⟩, .string ⟨d.owner.toArray⟩, .int .i64 d.created, .int .i64 d.expires, .bool d.archived] 23)
  have HSh := Lib.hid (fun W (hh : Strs W p bs) => Short_any p cap n bs 60 40 W hh hn (by omega))
  have HKe := Lib.hid (fun W => IsKeyedR_any d W)
  have Hs := Lib.hid hs
  have HAw := Lib.hid (fun W => awake22_any W)
  cases hk : keyedB d
  · rw [hk] at HKe
    clear hs hn hL hk
    go_enter Try.func3, Try.ntmps3
    go_upto_region 1 with (fail)
    refine wp_name (fun w0 => Ext w w0 ∧ DsAt w0 w.heap.size d) ⟨hx0, hb0⟩ ?_
    clear hx0 hb0
    rintro w0 ⟨he0, hd0⟩
    go_upto_region 3 with (go_at_call 4; refine (HAw.out _).mono ?_; rintro e w1 ⟨rfl, he1⟩)
    have hx1 := he0.trans he1
    have hd1 := hd0.ext he1
    clear he0 he1 hd0
    go_wp2_with (first
      | ((with_reducible (show wpList _ _ _ (⟨some 13, _, _, _, _, _⟩ :: _) _ _)); refine wpList_ds (o := ⟨some 13, _, _, _, _, _⟩) rfl (.tmp 3) rfl _ rfl d hd1 ?_)
      | (go_at_call 5; refine (HKe.out _).mono ?_; rintro e w2 ⟨rfl, he2⟩))
    go_ret
    exact ⟨rfl, hx1.trans he2⟩
  · rw [hk] at HKe
    cases hsh : shortB bs 60 40
    · rw [hsh] at HSh
      clear hs hn hL hk hsh
      go_enter Try.func3, Try.ntmps3
      go_upto_region 1 with (fail)
      refine wp_name (fun w0 => Ext w w0 ∧ DsAt w0 w.heap.size d) ⟨hx0, hb0⟩ ?_
      clear hx0 hb0
      rintro w0 ⟨he0, hd0⟩
      go_upto_region 3 with (go_at_call 4; refine (HAw.out _).mono ?_; rintro e w1 ⟨rfl, he1⟩)
      have hx1 := he0.trans he1
      have hd1 := hd0.ext he1
      clear he0 he1 hd0
      go_wp2_with (first
        | ((with_reducible (show wpList _ _ _ (⟨some 13, _, _, _, _, _⟩ :: _) _ _)); refine wpList_ds (o := ⟨some 13, _, _, _, _, _⟩) rfl (.tmp 3) rfl _ rfl d hd1 ?_)
        | (go_at_call 5; refine (HKe.out _).mono ?_; rintro e w2 ⟨rfl, he2⟩)
        | (go_at_call 6; refine (HSh.out _ (Hs.out.ext (hx1.trans he2))).mono ?_; rintro e w3 ⟨rfl, rfl⟩))
      go_ret
      exact ⟨rfl, hx1.trans he2⟩
    · have hmx := short_max hsh
      rw [hsh] at HSh
      have hn60 : n ≤ 60 := by omega
      by_cases hkl : key.length ≤ 100
      · have hkI : decide ((100 : Int) < key.length) = false := decide_eq_false (by omega)
        have hkN : ¬ 100 < key.length := by omega
        have HGr := Lib.hid (fun W (hh : Strs W p bs) => grow_any p cap n bs d W hh hn hn60 hmx.2 hk)
        clear hs hn hL hk hsh hmx
        go_enter Try.func3, Try.ntmps3
        go_upto_region 1 with (fail)
        refine wp_name (fun w0 => Ext w w0 ∧ DsAt w0 w.heap.size d) ⟨hx0, hb0⟩ ?_
        clear hx0 hb0
        rintro w0 ⟨he0, hd0⟩
        go_upto_region 3 with (go_at_call 4; refine (HAw.out _).mono ?_; rintro e w1 ⟨rfl, he1⟩)
        have hx1 := he0.trans he1
        have hd1 := hd0.ext he1
        clear he0 he1 hd0
        go_upto_region 5 with (first
          | ((with_reducible (show wpList _ _ _ (⟨some 13, _, _, _, _, _⟩ :: _) _ _)); refine wpList_ds (o := ⟨some 13, _, _, _, _, _⟩) rfl (.tmp 3) rfl _ rfl d hd1 ?_)
          | (go_at_call 5; refine (HKe.out _).mono ?_; rintro e w2 ⟨rfl, he2⟩)
          | (go_at_call 6; refine (HSh.out _ (Hs.out.ext (hx1.trans he2))).mono ?_; rintro e w3 ⟨rfl, rfl⟩))
        have hx2 := hx1.trans he2
        have hd2 := hd1.ext he2
        clear hx1 he2 hd1
        go_upto_region 6 with (first
          | ((with_reducible (show wpList _ _ _ (⟨some 27, _, _, _, _, _⟩ :: _) _ _)); refine wpList_ds (o := ⟨some 27, _, _, _, _, _⟩) rfl (.tmp 3) rfl _ rfl d hd2 ?_)
          | (go_at_call 7; refine (HGr.out _ (Hs.out.ext hx2)).mono ?_; rintro e w4 ⟨he4, M, h, items, g8, c8, g10, c10, hG, rfl, hsM, hI⟩))
        have hxa := Ext.alloc w4 (.cells #[.int .i64 h.applied, .int .i64 h.count, .int .i64 h.fin, .int .i64 h.root, .int .i64 h.height, .int .i64 h.splits, .int .i64 h.areas] 30)
        have hba := Blk.new w4 (.cells #[.int .i64 h.applied, .int .i64 h.count, .int .i64 h.fin, .int .i64 h.root, .int .i64 h.height, .int .i64 h.splits, .int .i64 h.areas] 30)
        refine wp_name (fun w5 => Ext w w5 ∧ DsAt w5 w.heap.size d ∧ HdAt w5 w4.heap.size h ∧ Strs w5 (some ⟨g8, 0, none⟩) M ∧ Nents w5 (some ⟨g10, 0, none⟩) items) ⟨hx2.trans (he4.trans hxa), hd2.ext (he4.trans hxa), hba, hsM.ext hxa, hI.ext hxa⟩ ?_
        clear hxa hba hx2 hd2 he4 hsM hI
        generalize w4.heap.size = hb at *
        rintro w5 ⟨hx5, hd5, hh5, hs5, hi5⟩
        have HLd : Hid (Calls Try.prog 8 #[.slice (some ⟨g8, 0, none⟩) M.length c8, .agg #[.int .i64 h.applied, .int .i64 h.count, .int .i64 h.fin, .int .i64 h.root, .int .i64 h.height, .int .i64 h.splits, .int .i64 h.areas], .agg #[.int .i64 d.id, .int .i64 d.org, .int .i64 d.format, .int .i64 d.length, .int .i64 d.block, .int .i64 d.keyAt, .int .i64 d.keyLength, .int .i64 d.interval, .int .i64 d.area, .int .i64 d.freeInterval, .int .i64 d.freeArea, .int .i64 d.base, .int .i64 d.altAt, .int .i64 d.altLength, .bool d.unique, .int .i64 d.cls, .string ⟨d.volume.toArray⟩, .string ⟨d.owner.toArray⟩, .int .i64 d.created, .int .i64 d.expires, .bool d.archived], .slice (some ⟨g10, 0, none⟩) items.length c10, .string ⟨key.toArray⟩] w5 fun e w' => e = .returned (.bool true) ∧ Ext w5 w') := Lib.hid (by
          obtain ⟨⟨pgs, G⟩, _⟩ := hG
          exact leads_any (some ⟨g8, 0, none⟩) c8 M.length M h d items pgs 2 key (some ⟨g10, 0, none⟩) c10 w5 hs5 rfl (G.small (by omega)) hi5 (by have := G.len; omega) (G.door (by omega)) G.tree.sub G.tree.srt G.tree.low0)
        clear hG hs5 hi5
        go_wp2_with (first
          | ((with_reducible (show wpList _ _ _ (⟨some 37, _, _, _, _, _⟩ :: _) _ _)); refine wpList_hd (o := ⟨some 37, _, _, _, _, _⟩) rfl (.tmp 8) rfl _ rfl h hh5 ?_)
          | ((with_reducible (show wpList _ _ _ (⟨some 38, _, _, _, _, _⟩ :: _) _ _)); refine wpList_ds (o := ⟨some 38, _, _, _, _, _⟩) rfl (.tmp 3) rfl _ rfl d hd5 ?_)
          | (go_at_call 8; refine HLd.out.mono ?_; rintro e w6 ⟨rfl, he6⟩))
        go_ret
        exact ⟨rfl, hx5.trans he6⟩
      · have hkI : (100 : Int) < key.length := by omega
        have hkN : 100 < key.length := by omega
        clear hs hn hL hk hsh hmx hkl
        go_enter Try.func3, Try.ntmps3
        go_upto_region 1 with (fail)
        refine wp_name (fun w0 => Ext w w0 ∧ DsAt w0 w.heap.size d) ⟨hx0, hb0⟩ ?_
        clear hx0 hb0
        rintro w0 ⟨he0, hd0⟩
        go_upto_region 3 with (go_at_call 4; refine (HAw.out _).mono ?_; rintro e w1 ⟨rfl, he1⟩)
        have hx1 := he0.trans he1
        have hd1 := hd0.ext he1
        clear he0 he1 hd0
        go_wp2_with (first
          | ((with_reducible (show wpList _ _ _ (⟨some 13, _, _, _, _, _⟩ :: _) _ _)); refine wpList_ds (o := ⟨some 13, _, _, _, _, _⟩) rfl (.tmp 3) rfl _ rfl d hd1 ?_)
          | (go_at_call 5; refine (HKe.out _).mono ?_; rintro e w2 ⟨rfl, he2⟩)
          | (go_at_call 6; refine (HSh.out _ (Hs.out.ext (hx1.trans he2))).mono ?_; rintro e w3 ⟨rfl, rfl⟩))
        go_ret
        exact ⟨rfl, hx1.trans he2⟩
end Go.Proofs.Ytolmoknjmdmpgaa
