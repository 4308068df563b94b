/- Words of chapter 18 that later chapters use: headers, descriptions, page writes, pairs, their comparisons, Memory.Page, Door. -/
import Derived.Test.YtmnpappbacndlaaGreatDoorGA
import Derived.Test.YtmnpappbacndlaaGreatDoorX1
import Derived.Test.YtmnpappbacndlaaGreatDoorX2
import Derived.Test.YtmnpappbacndlaaGreatDoorPB
import Derived.Test.YtmnpappbacndlaaGreatDoorW1
import Derived.Deep.DeepCutAuto
import Derived.Laws.StructEq
set_option linter.unusedSimpArgs false
set_option linter.unusedVariables false
namespace Go.Proofs.YtmnpappbacndlaaGreatDoor
open Go.RowKit Dsd

theorem ret_page {a b : List UInt8} {c e : Int} (h1 : a = b) (h2 : c = e) : Ending.returned (.tuple #[.string ⟨a.toArray⟩, .int .i64 c]) = .returned (.tuple #[.string ⟨b.toArray⟩, .int .i64 e]) := by rw [h1, h2]

theorem dsDesc : Tryz.prog.underlying 31 = some (.struct (Tryz.prog.fieldsOf 31)) := by kernel_rfl
theorem dsSize : (Tryz.prog.info? 31).map (·.size) = some 21 := by kernel_rfl
theorem hdDesc : Tryz.prog.underlying 52 = some (.struct (Tryz.prog.fieldsOf 52)) := by kernel_rfl
theorem hdSize : (Tryz.prog.info? 52).map (·.size) = some 7 := by kernel_rfl
/-- A description, a header in a block of its own. -/
def DsAt (w : World) (b : Nat) (d : DS) : Prop := Blk w b (.cells #[.int .i64 d.id, .int .i64 d.org, .int .i64 d.format, .int .i64 d.length, .int .i64 d.block, .int .i64 d.keyAt, .int .i64 d.keyLength, .int .i64 d.interval, .int .i64 d.area, .int .i64 d.freeInterval, .int .i64 d.freeArea, .int .i64 d.base, .int .i64 d.altAt, .int .i64 d.altLength, .bool d.unique, .int .i64 d.cls, .string ⟨d.volume.toArray⟩, .string ⟨d.owner.toArray⟩, .int .i64 d.created, .int .i64 d.expires, .bool d.archived] 31)
def HdAt (w : World) (b : Nat) (h : Hd) : Prop := Blk w b (.cells #[.int .i64 h.applied, .int .i64 h.count, .int .i64 h.fin, .int .i64 h.root, .int .i64 h.height, .int .i64 h.splits, .int .i64 h.areas] 52)
theorem DsAt.ext {w w' : World} {b : Nat} {d : DS} (h : DsAt w b d) (e : Ext w w') : DsAt w' b d := e.blk _ _ h
theorem HdAt.ext {w w' : World} {b : Nat} {d : Hd} (h : HdAt w b d) (e : Ext w w') : HdAt w' b d := e.blk _ _ h
theorem DsAt.alloc {w : World} {b : Nat} {d : DS} (h : DsAt w b d) (o : Obj) : DsAt (w.alloc o) b d := h.ext (Ext.alloc _ _)
theorem HdAt.alloc {w : World} {b : Nat} {d : Hd} (h : HdAt w b d) (o : Obj) : HdAt (w.alloc o) b d := h.ext (Ext.alloc _ _)
theorem wpList_ds {ops : Array Oper} {rest : List Oper} {o : Oper} {a : Act} {w : World} {Q : Exit → Act → World → Prop} (hw : Region.wanted o (yielded ops a.tmps) = true) (x : Operand) (ho : o.op = .load 31 x)
    (g : Nat) (hx : a.eval x = .pointer (some ⟨g, 0, none⟩)) (d : DS) (hb : DsAt w g d) (h : wpList Tryz.prog ops Q rest (a.put o.dst (.agg #[.int .i64 d.id, .int .i64 d.org, .int .i64 d.format, .int .i64 d.length, .int .i64 d.block, .int .i64 d.keyAt, .int .i64 d.keyLength, .int .i64 d.interval, .int .i64 d.area, .int .i64 d.freeInterval, .int .i64 d.freeArea, .int .i64 d.base, .int .i64 d.altAt, .int .i64 d.altLength, .bool d.unique, .int .i64 d.cls, .string ⟨d.volume.toArray⟩, .string ⟨d.owner.toArray⟩, .int .i64 d.created, .int .i64 d.expires, .bool d.archived])) w) : wpList Tryz.prog ops Q (o :: rest) a w :=
  wpList_row hw 31 x ho g hx _ _ _ hb dsDesc rfl dsSize h
theorem wpList_hd {ops : Array Oper} {rest : List Oper} {o : Oper} {a : Act} {w : World} {Q : Exit → Act → World → Prop} (hw : Region.wanted o (yielded ops a.tmps) = true) (x : Operand) (ho : o.op = .load 52 x)
    (g : Nat) (hx : a.eval x = .pointer (some ⟨g, 0, none⟩)) (d : Hd) (hb : HdAt w g d) (h : wpList Tryz.prog ops Q rest (a.put o.dst (.agg #[.int .i64 d.applied, .int .i64 d.count, .int .i64 d.fin, .int .i64 d.root, .int .i64 d.height, .int .i64 d.splits, .int .i64 d.areas])) w) : wpList Tryz.prog ops Q (o :: rest) a w :=
  wpList_row hw 52 x ho g hx _ _ _ hb hdDesc rfl hdSize h

/-- What stands behind the boxes of a header and a description. -/
theorem hd_ds (w : World) (h : Hd) (d : DS) : Ext w ((w.alloc (.cells #[.int .i64 h.applied, .int .i64 h.count, .int .i64 h.fin, .int .i64 h.root, .int .i64 h.height, .int .i64 h.splits, .int .i64 h.areas] 52)).alloc (.cells #[.int .i64 d.id, .int .i64 d.org, .int .i64 d.format, .int .i64 d.length, .int .i64 d.block, .int .i64 d.keyAt, .int .i64 d.keyLength, .int .i64 d.interval, .int .i64 d.area, .int .i64 d.freeInterval, .int .i64 d.freeArea, .int .i64 d.base, .int .i64 d.altAt, .int .i64 d.altLength, .bool d.unique, .int .i64 d.cls, .string ⟨d.volume.toArray⟩, .string ⟨d.owner.toArray⟩, .int .i64 d.created, .int .i64 d.expires, .bool d.archived] 31)) ∧
    HdAt ((w.alloc (.cells #[.int .i64 h.applied, .int .i64 h.count, .int .i64 h.fin, .int .i64 h.root, .int .i64 h.height, .int .i64 h.splits, .int .i64 h.areas] 52)).alloc (.cells #[.int .i64 d.id, .int .i64 d.org, .int .i64 d.format, .int .i64 d.length, .int .i64 d.block, .int .i64 d.keyAt, .int .i64 d.keyLength, .int .i64 d.interval, .int .i64 d.area, .int .i64 d.freeInterval, .int .i64 d.freeArea, .int .i64 d.base, .int .i64 d.altAt, .int .i64 d.altLength, .bool d.unique, .int .i64 d.cls, .string ⟨d.volume.toArray⟩, .string ⟨d.owner.toArray⟩, .int .i64 d.created, .int .i64 d.expires, .bool d.archived] 31)) w.heap.size h ∧ DsAt ((w.alloc (.cells #[.int .i64 h.applied, .int .i64 h.count, .int .i64 h.fin, .int .i64 h.root, .int .i64 h.height, .int .i64 h.splits, .int .i64 h.areas] 52)).alloc (.cells #[.int .i64 d.id, .int .i64 d.org, .int .i64 d.format, .int .i64 d.length, .int .i64 d.block, .int .i64 d.keyAt, .int .i64 d.keyLength, .int .i64 d.interval, .int .i64 d.area, .int .i64 d.freeInterval, .int .i64 d.freeArea, .int .i64 d.base, .int .i64 d.altAt, .int .i64 d.altLength, .bool d.unique, .int .i64 d.cls, .string ⟨d.volume.toArray⟩, .string ⟨d.owner.toArray⟩, .int .i64 d.created, .int .i64 d.expires, .bool d.archived] 31)) (w.heap.size + 1) d :=
  ⟨(Ext.alloc _ _).trans (Ext.alloc _ _), Blk.alloc (Blk.new w _) _, Blk.new1 _ _ _ (by simp)⟩


theorem pageOf_small {m : List (List UInt8)} (h : Small m) (k : Int) : (pageOf m k).1.length ≤ 1000000 := by
  unfold pageOf
  split
  · exact h.at _
  · simp
/-- A slice of page writes that is read. -/
def Wrts (w : World) (p : Option Addr) (L : List (Int × List UInt8)) : Prop :=
  L = [] ∨ ∃ b off, p = some ⟨b, off, none⟩ ∧ (b < w.heap.size ∧ ∃ cs, Blk w b (.cells cs 57)) ∧ ∀ i, i < L.length → w.cell? ⟨b, off + i * 2, none⟩ = some (.int .i64 (L.getD i (0, [])).1) ∧ w.cell? ⟨b, off + i * 2 + 1, none⟩ = some (.string ⟨(L.getD i (0, [])).2.toArray⟩)
theorem Wrts.ext {w w' : World} {p : Option Addr} {L : List (Int × List UInt8)} (h : Wrts w p L) (e : Ext w w') : Wrts w' p L := by
  rcases h with h | ⟨b, off, hp, ⟨hb, cs, hbk⟩, hc⟩
  · exact .inl h
  · exact .inr ⟨b, off, hp, ⟨Nat.lt_of_lt_of_le hb e.size, cs, e.blk _ _ hbk⟩, fun i hi => ⟨(e.cell b _ hb).trans (hc i hi).1, (e.cell b _ hb).trans (hc i hi).2⟩⟩
theorem wrts_one {w : World} {b : Nat} {k : Int} {s : List UInt8} (h : Blk w b (.cells #[.int .i64 k, .string ⟨s.toArray⟩] 57)) : Wrts w (some ⟨b, 0, none⟩) [(k, s)] := by
  refine .inr ⟨b, 0, rfl, ⟨Blk.lt h, _, h⟩, fun i hi => ?_⟩
  obtain rfl : i = 0 := by simp at hi; exact hi
  exact ⟨Blk.val h 0 _ rfl, Blk.val h 1 _ rfl⟩
/-- A header's block, whatever it holds. -/
def KS (b : Nat) (w : World) : Prop := ∃ old : Array Value, Blk w b (.cells old 52) ∧ old.size = 7
theorem KS.ext {b : Nat} {w w' : World} (h : KS b w) (e : Ext w w') : KS b w' := by obtain ⟨o, h1, h2⟩ := h; exact ⟨o, e.blk _ _ h1, h2⟩
theorem Chg.cell {g : Nat} {w w' : World} (c : Chg g w w') (b i : Nat) (hne : b ≠ g) : w'.cell? ⟨b, i, none⟩ = w.cell? ⟨b, i, none⟩ := World.cell?_of_block (c.block b hne)
theorem wp_putE {P : Program} {o : Oper} {a : Act} {w : World} {K : Act → World → Prop} {Q : Exit → Act → World → Prop} (ty : TypeId) (x y : Operand) (ho : o.op = .store ty x y)
    (g : Nat) (cells : Array Value) (hx : a.eval x = .pointer (some ⟨g, 0, none⟩)) (hy : a.eval y = .agg cells) (hb : KS g w) (hi : (P.info? ty).map (·.size) = some cells.size) (h7 : cells.size = 7) (h1 : cells.all (·.oneCell') = true)
    (h : ∀ w', Blk w' g (.cells cells 52) → Chg g w w' → K (a.put o.dst undef) w') : o.wp P a w K Q := by
  obtain ⟨old, h2, h3⟩ := hb
  exact wp_store_row ty x y ho g cells hx hy _ old h2 hi (h3.trans h7.symm) h1 (h _ (Blk.setRow h2) Chg.setRow)
theorem hd_set7 {w : World} {b : Nat} (h : Blk w b (.cells #[.int .i64 0, .int .i64 0, .int .i64 0, .int .i64 0, .int .i64 0, .int .i64 0, .int .i64 0] 52)) (H : Hd) : Blk (((((((w.setCell ⟨b, 0, none⟩ (.int .i64 H.applied)).setCell ⟨b, 1, none⟩ (.int .i64 H.count)).setCell ⟨b, 2, none⟩ (.int .i64 H.fin)).setCell ⟨b, 3, none⟩ (.int .i64 H.root)).setCell ⟨b, 4, none⟩ (.int .i64 H.height)).setCell ⟨b, 5, none⟩ (.int .i64 H.splits)).setCell ⟨b, 6, none⟩ (.int .i64 H.areas)) b (.cells #[.int .i64 H.applied, .int .i64 H.count, .int .i64 H.fin, .int .i64 H.root, .int .i64 H.height, .int .i64 H.splits, .int .i64 H.areas] 52) ∧ Chg b w (((((((w.setCell ⟨b, 0, none⟩ (.int .i64 H.applied)).setCell ⟨b, 1, none⟩ (.int .i64 H.count)).setCell ⟨b, 2, none⟩ (.int .i64 H.fin)).setCell ⟨b, 3, none⟩ (.int .i64 H.root)).setCell ⟨b, 4, none⟩ (.int .i64 H.height)).setCell ⟨b, 5, none⟩ (.int .i64 H.splits)).setCell ⟨b, 6, none⟩ (.int .i64 H.areas)) :=
  ⟨(Blk.setCell (i := 6) (v := .int .i64 H.areas) (Blk.setCell (i := 5) (v := .int .i64 H.splits) (Blk.setCell (i := 4) (v := .int .i64 H.height) (Blk.setCell (i := 3) (v := .int .i64 H.root) (Blk.setCell (i := 2) (v := .int .i64 H.fin) (Blk.setCell (i := 1) (v := .int .i64 H.count) (Blk.setCell (i := 0) (v := .int .i64 H.applied) h))))))), ((((((Chg.setCell).trans Chg.setCell).trans Chg.setCell).trans Chg.setCell).trans Chg.setCell).trans Chg.setCell).trans Chg.setCell⟩
theorem Blk.below {w w' : World} {B b : Nat} {o : Obj} (h : Blk w b o) (k : Below B w w') (hb : b < B) : Blk w' b o := (k.block b hb).trans h
theorem hd_one (h : Hd) : (#[.int .i64 h.applied, .int .i64 h.count, .int .i64 h.fin, .int .i64 h.root, .int .i64 h.height, .int .i64 h.splits, .int .i64 h.areas] : Array Value).all (·.oneCell') = true := by simp [Value.oneCell']
theorem take_snocX {α : Type} [DecidableEq α] (d : α) (A B : List α) (k : Nat) (ha : k < A.length) (hb : k < B.length) (h : A.take k = B.take k) (h2 : A.getD k d = B.getD k d) : A.take (k + 1) = B.take (k + 1) := by
  rw [List.take_succ_eq_append_getElem ha, List.take_succ_eq_append_getElem hb, h]
  simp [List.getD, ha, hb] at h2
  rw [h2]
theorem Wrts.at {w : World} {p : Option Addr} {L : List (Int × List UInt8)} (h : Wrts w p L) (k : Nat) (hk : k < L.length) :
    ∃ b off, p = some ⟨b, off, none⟩ ∧ b < w.heap.size ∧ ∀ i, i < L.length → w.cell? ⟨b, off + i * 2, none⟩ = some (.int .i64 (L.getD i (0, [])).1) ∧ w.cell? ⟨b, off + i * 2 + 1, none⟩ = some (.string ⟨(L.getD i (0, [])).2.toArray⟩) := by
  rcases h with h | ⟨b, off, h1, ⟨h2, _⟩, h3⟩
  · subst h; simp at hk
  · exact ⟨b, off, h1, h2, h3⟩
/-- A slice of pairs that is read. -/
def Prs (w : World) (p : Option Addr) (L : List (List UInt8 × List UInt8)) : Prop :=
  L = [] ∨ ∃ b off, p = some ⟨b, off, none⟩ ∧ b < w.heap.size ∧ ∀ i, i < L.length → w.cell? ⟨b, off + i * 2, none⟩ = some (.string ⟨(L.getD i ([], [])).1.toArray⟩) ∧ w.cell? ⟨b, off + i * 2 + 1, none⟩ = some (.string ⟨(L.getD i ([], [])).2.toArray⟩)
theorem Prs.ext {w w' : World} {p : Option Addr} {L : List (List UInt8 × List UInt8)} (h : Prs w p L) (e : Ext w w') : Prs w' p L := by
  rcases h with h | ⟨b, off, hp, hb, hc⟩
  · exact .inl h
  · exact .inr ⟨b, off, hp, Nat.lt_of_lt_of_le hb e.size, fun i hi => ⟨(e.cell b _ hb).trans (hc i hi).1, (e.cell b _ hb).trans (hc i hi).2⟩⟩
theorem Prs.at {w : World} {p : Option Addr} {L : List (List UInt8 × List UInt8)} (h : Prs w p L) (k : Nat) (hk : k < L.length) :
    ∃ b off, p = some ⟨b, off, none⟩ ∧ b < w.heap.size ∧ ∀ i, i < L.length → w.cell? ⟨b, off + i * 2, none⟩ = some (.string ⟨(L.getD i ([], [])).1.toArray⟩) ∧ w.cell? ⟨b, off + i * 2 + 1, none⟩ = some (.string ⟨(L.getD i ([], [])).2.toArray⟩) := by
  rcases h with h | h
  · subst h; simp at hk
  · exact h

theorem writeFields : (Tryz.prog.fieldsOf 57).toList.map (fun f => (f.name, f.type, f.offset)) = [("Page", 3, 0), ("Data", 9, 1)] := by kernel_rfl
theorem writeHeld : Tryz.prog.stoodInHeld 57 = false := by kernel_rfl
theorem writeGuard : Tryz.prog.eqGuardType Tryz.prog.depth 57 = false := by kernel_rfl
theorem writeDesc : Tryz.prog.underlying 57 = some (.struct (Tryz.prog.fieldsOf 57)) := by kernel_rfl
/-- Slots are compared field by field. -/
theorem write_equal (u u' : Int) (x x' : List UInt8) (W : World) : (Op.equalIn 10000 57 (.agg #[.int .i64 u, .string ⟨x.toArray⟩]) (.agg #[.int .i64 u', .string ⟨x'.toArray⟩])).run Tryz.prog W = .ok ((u, x) == (u', x')) W := by
  rw [run_equalIn_agg W 9999 57 _ _ writeDesc writeHeld]
  have h := writeFields
  generalize (Tryz.prog.fieldsOf 57).toList = fs at *
  have hl : fs.length = 2 := by simpa using congrArg List.length h
  obtain ⟨f, g, rfl⟩ : ∃ f g, fs = [f, g] := by
    cases fs with
    | nil => simp at hl
    | cons f fs =>
      cases fs with
      | nil => simp at hl
      | cons g fs =>
        cases fs with
        | nil => exact ⟨f, g, rfl⟩
        | cons _ _ => simp at hl
  simp at h
  obtain ⟨⟨a1, a2, a3⟩, b1, b2, b3⟩ := h
  simp [Op.eqFields, a1, a2, a3, b1, b2, b3, go_sem]
  by_cases h1 : u = u'
  · by_cases h2 : x = x'
    · simp [h1, h2]
    · simp [h1, h2]
  · simp [h1]


theorem pairFields : (Tryz.prog.fieldsOf 42).toList.map (fun f => (f.name, f.type, f.offset)) = [("Key", 9, 0), ("Record", 9, 1)] := by kernel_rfl
theorem pairHeld : Tryz.prog.stoodInHeld 42 = false := by kernel_rfl
theorem pairGuard : Tryz.prog.eqGuardType Tryz.prog.depth 42 = false := by kernel_rfl
theorem pairDesc : Tryz.prog.underlying 42 = some (.struct (Tryz.prog.fieldsOf 42)) := by kernel_rfl
/-- Slots are compared field by field. -/
theorem pair_equal (u u' : List UInt8) (x x' : List UInt8) (W : World) : (Op.equalIn 10000 42 (.agg #[.string ⟨u.toArray⟩, .string ⟨x.toArray⟩]) (.agg #[.string ⟨u'.toArray⟩, .string ⟨x'.toArray⟩])).run Tryz.prog W = .ok ((u, x) == (u', x')) W := by
  rw [run_equalIn_agg W 9999 42 _ _ pairDesc pairHeld]
  have h := pairFields
  generalize (Tryz.prog.fieldsOf 42).toList = fs at *
  have hl : fs.length = 2 := by simpa using congrArg List.length h
  obtain ⟨f, g, rfl⟩ : ∃ f g, fs = [f, g] := by
    cases fs with
    | nil => simp at hl
    | cons f fs =>
      cases fs with
      | nil => simp at hl
      | cons g fs =>
        cases fs with
        | nil => exact ⟨f, g, rfl⟩
        | cons _ _ => simp at hl
  simp at h
  obtain ⟨⟨a1, a2, a3⟩, b1, b2, b3⟩ := h
  simp [Op.eqFields, a1, a2, a3, b1, b2, b3, go_sem]
  by_cases h1 : u = u'
  · by_cases h2 : x = x'
    · simp [h1, h2]
    · simp [h1, h2]
  · simp [h1]

theorem hdFields : (Tryz.prog.fieldsOf 52).toList.map (fun f => (f.name, f.type, f.offset)) = [("Applied", 3, 0), ("Count", 3, 1), ("End", 3, 2), ("Root", 3, 3), ("Height", 3, 4), ("Splits", 3, 5), ("Areas", 3, 6)] := by kernel_rfl
theorem hdHeld : Tryz.prog.stoodInHeld 52 = false := by kernel_rfl
theorem hdGuard : Tryz.prog.eqGuardType Tryz.prog.depth 52 = false := by kernel_rfl
theorem list7 {α : Type} (l : List α) (h : l.length = 7) : ∃ a b c d e f g, l = [a, b, c, d, e, f, g] := by
  rcases l with _ | ⟨a, _ | ⟨b, _ | ⟨c, _ | ⟨d, _ | ⟨e, _ | ⟨f, _ | ⟨g, _ | ⟨x, l⟩⟩⟩⟩⟩⟩⟩⟩ <;> simp at h
  exact ⟨a, b, c, d, e, f, g, rfl⟩
/-- Headers are compared field by field. -/
theorem hd_equal (H G : Hd) (W : World) : (Op.equalIn 10000 52 (.agg #[.int .i64 H.applied, .int .i64 H.count, .int .i64 H.fin, .int .i64 H.root, .int .i64 H.height, .int .i64 H.splits, .int .i64 H.areas]) (.agg #[.int .i64 G.applied, .int .i64 G.count, .int .i64 G.fin, .int .i64 G.root, .int .i64 G.height, .int .i64 G.splits, .int .i64 G.areas])).run Tryz.prog W = .ok (decide (H = G)) W := by
  rw [run_equalIn_agg W 9999 52 _ _ hdDesc hdHeld]
  have h := hdFields
  generalize (Tryz.prog.fieldsOf 52).toList = fs at *
  have hl : fs.length = 7 := by simpa using congrArg List.length h
  obtain ⟨a, b, c, d, e, f, g, rfl⟩ := list7 fs hl
  simp at h
  obtain ⟨⟨a1, a2, a3⟩, ⟨b1, b2, b3⟩, ⟨c1, c2, c3⟩, ⟨d1, d2, d3⟩, ⟨e1, e2, e3⟩, ⟨f1, f2, f3⟩, g1, g2, g3⟩ := h
  obtain ⟨x1, x2, x3, x4, x5, x6, x7⟩ := H
  obtain ⟨y1, y2, y3, y4, y5, y6, y7⟩ := G
  simp [Op.eqFields, a1, a2, a3, b1, b2, b3, c1, c2, c3, d1, d2, d3, e1, e2, e3, f1, f2, f3, g1, g2, g3, go_sem]
  (repeat' split) <;> simp_all
theorem short_small {L : List (List UInt8)} {k : Nat} (h : shortB L k 600 = true) (hk : k ≤ 1000) : Small L := by
  unfold shortB at h
  simp at h
  exact ⟨by omega, fun s hs => by have := h.2 s hs; omega⟩
def prCells (L : List (List UInt8 × List UInt8)) : List Value := L.flatMap fun x => [.string ⟨x.1.toArray⟩, .string ⟨x.2.toArray⟩]
theorem infoPair : (Tryz.prog.info? 42).map (fun i => (i.zero, i.size, i.bytes)) = some (some (.agg #[.string ByteArray.empty, .string ByteArray.empty]), 2, 32) := by kernel_rfl
theorem prCells_at (L : List (List UInt8 × List UInt8)) (i : Nat) (h : i < L.length) : (prCells L)[i * 2]? = some (.string ⟨(L.getD i ([], [])).1.toArray⟩) ∧ (prCells L)[i * 2 + 1]? = some (.string ⟨(L.getD i ([], [])).2.toArray⟩) := by
  induction L generalizing i with
  | nil => simp at h
  | cons x L ih =>
    have e : prCells (x :: L) = .string ⟨x.1.toArray⟩ :: .string ⟨x.2.toArray⟩ :: prCells L := by simp [prCells]
    rw [e]
    cases i with
    | zero => simp
    | succ i =>
      have := ih i (by simpa using h)
      rw [show (i + 1) * 2 = i * 2 + 2 by omega, show i * 2 + 2 + 1 = (i * 2 + 1) + 2 by omega]
      simpa using this
theorem prCells_len (L : List (List UInt8 × List UInt8)) : (prCells L).length = 2 * L.length := by
  induction L with
  | nil => rfl
  | cons x L ih => simp [prCells] at ih ⊢; omega
theorem prCells_snoc (L : List (List UInt8 × List UInt8)) (x : List UInt8 × List UInt8) : prCells (L ++ [x]) = prCells L ++ [.string ⟨x.1.toArray⟩, .string ⟨x.2.toArray⟩] := by simp [prCells]
theorem own_prs {w : World} {base : Nat} {v : Value} {L : List (List UInt8 × List UInt8)} {n : Nat} (h : w.ownsRow base 42 2 v n (prCells L)) : ∃ q c, v = .slice q n c ∧ Prs w q L ∧ L.length = n := by
  obtain ⟨hl, ⟨rfl, rfl⟩ | ⟨g, cap, cur, rfl, _, hg, h1, h2, h3, h4⟩⟩ := h
  · rw [prCells_len] at hl
    exact ⟨none, 0, rfl, .inl (List.eq_nil_of_length_eq_zero (by omega)), by omega⟩
  · rw [prCells_len] at hl
    refine ⟨_, _, rfl, .inr ⟨g, 0, rfl, (Array.getElem?_eq_some_iff.1 hg).1, fun i hi => ?_⟩, by omega⟩
    obtain ⟨c1, c2⟩ := prCells_at L i hi
    have hb : Blk w g (.cells cur 42) := hg
    have k : ∀ j, (prCells L)[j]? = if j < n * 2 then cur[j]? else none := fun j => by rw [← h4, List.getElem?_take]; simp
    rw [k, if_pos (by omega)] at c1 c2
    rw [Nat.zero_add]
    exact ⟨Blk.val hb _ _ c1, Blk.val hb _ _ c2⟩
/-- What stands behind the boxes of a header and a description, and a new cluster. -/
theorem hd_ds_cl (w : World) (h : Hd) (d : DS) (cs : Array Value) (t : TypeId) :
    Ext w (((w.alloc (.cells #[.int .i64 h.applied, .int .i64 h.count, .int .i64 h.fin, .int .i64 h.root, .int .i64 h.height, .int .i64 h.splits, .int .i64 h.areas] 52)).alloc (.cells #[.int .i64 d.id, .int .i64 d.org, .int .i64 d.format, .int .i64 d.length, .int .i64 d.block, .int .i64 d.keyAt, .int .i64 d.keyLength, .int .i64 d.interval, .int .i64 d.area, .int .i64 d.freeInterval, .int .i64 d.freeArea, .int .i64 d.base, .int .i64 d.altAt, .int .i64 d.altLength, .bool d.unique, .int .i64 d.cls, .string ⟨d.volume.toArray⟩, .string ⟨d.owner.toArray⟩, .int .i64 d.created, .int .i64 d.expires, .bool d.archived] 31)).alloc (.cells cs t)) ∧
    HdAt (((w.alloc (.cells #[.int .i64 h.applied, .int .i64 h.count, .int .i64 h.fin, .int .i64 h.root, .int .i64 h.height, .int .i64 h.splits, .int .i64 h.areas] 52)).alloc (.cells #[.int .i64 d.id, .int .i64 d.org, .int .i64 d.format, .int .i64 d.length, .int .i64 d.block, .int .i64 d.keyAt, .int .i64 d.keyLength, .int .i64 d.interval, .int .i64 d.area, .int .i64 d.freeInterval, .int .i64 d.freeArea, .int .i64 d.base, .int .i64 d.altAt, .int .i64 d.altLength, .bool d.unique, .int .i64 d.cls, .string ⟨d.volume.toArray⟩, .string ⟨d.owner.toArray⟩, .int .i64 d.created, .int .i64 d.expires, .bool d.archived] 31)).alloc (.cells cs t)) w.heap.size h ∧
    DsAt (((w.alloc (.cells #[.int .i64 h.applied, .int .i64 h.count, .int .i64 h.fin, .int .i64 h.root, .int .i64 h.height, .int .i64 h.splits, .int .i64 h.areas] 52)).alloc (.cells #[.int .i64 d.id, .int .i64 d.org, .int .i64 d.format, .int .i64 d.length, .int .i64 d.block, .int .i64 d.keyAt, .int .i64 d.keyLength, .int .i64 d.interval, .int .i64 d.area, .int .i64 d.freeInterval, .int .i64 d.freeArea, .int .i64 d.base, .int .i64 d.altAt, .int .i64 d.altLength, .bool d.unique, .int .i64 d.cls, .string ⟨d.volume.toArray⟩, .string ⟨d.owner.toArray⟩, .int .i64 d.created, .int .i64 d.expires, .bool d.archived] 31)).alloc (.cells cs t)) (w.heap.size + 1) d ∧
    Blk (((w.alloc (.cells #[.int .i64 h.applied, .int .i64 h.count, .int .i64 h.fin, .int .i64 h.root, .int .i64 h.height, .int .i64 h.splits, .int .i64 h.areas] 52)).alloc (.cells #[.int .i64 d.id, .int .i64 d.org, .int .i64 d.format, .int .i64 d.length, .int .i64 d.block, .int .i64 d.keyAt, .int .i64 d.keyLength, .int .i64 d.interval, .int .i64 d.area, .int .i64 d.freeInterval, .int .i64 d.freeArea, .int .i64 d.base, .int .i64 d.altAt, .int .i64 d.altLength, .bool d.unique, .int .i64 d.cls, .string ⟨d.volume.toArray⟩, .string ⟨d.owner.toArray⟩, .int .i64 d.created, .int .i64 d.expires, .bool d.archived] 31)).alloc (.cells cs t)) (w.heap.size + 1 + 1) (.cells cs t) := by
  obtain ⟨h1, h2, h3⟩ := hd_ds w h d
  exact ⟨h1.trans (Ext.alloc _ _), h2.alloc _, h3.alloc _, Blk.new1 _ _ _ (by simp)⟩
end Go.Proofs.YtmnpappbacndlaaGreatDoor
