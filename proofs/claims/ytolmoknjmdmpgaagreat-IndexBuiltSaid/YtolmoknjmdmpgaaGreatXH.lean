/- Words of chapter 18 that later chapters use: headers, descriptions, page writes, pairs, their comparisons, Memory.Page, Door. -/
import Derived.Test.YtolmoknjmdmpgaaGreatGA
import Derived.Test.YtolmoknjmdmpgaaGreatX1
import Derived.Test.YtolmoknjmdmpgaaGreatX2
import Derived.Test.YtolmoknjmdmpgaaGreatPB
import Derived.Test.YtolmoknjmdmpgaaGreatW1
import Derived.Deep.DeepCutAuto
import Derived.Laws.StructEq
set_option linter.unusedSimpArgs false
set_option linter.unusedVariables false
namespace Go.Proofs.YtolmoknjmdmpgaaGreat
open Go.RowKit Dsd

theorem ret_page {a b : List UInt8} {c e : Int} (h1 : a = b) (h2 : c = e) : Ending.returned (.tuple #[.string ⟨a.toArray⟩, .int .i64 c]) = .returned (.tuple #[.string ⟨b.toArray⟩, .int .i64 e]) := by rw [h1, h2]
theorem Page_any (p : Option Addr) (cap n : Nat) (m : List (List UInt8)) (k : Int) (w : World) (hs : Strs w p m) (hn : m.length = n) (hm : n ≤ 1000000) :
    Calls Tryz.prog 53 #[.slice p n cap, .int .i64 k] w fun e w' => e = .returned (.tuple #[.string ⟨(pageOf m k).1.toArray⟩, .int .i64 (pageOf m k).2]) ∧ w = w' := by
  subst hn
  by_cases h : 0 ≤ k ∧ k < m.length
  · have hp : pageOf m k = (m.getD k.toNat [], 0) := by unfold pageOf; rw [if_pos h]
    obtain ⟨k, rfl⟩ := Int.eq_ofNat_of_zero_le h.1
    have hk : k < m.length := by omega
    obtain ⟨b, off, rfl, hb, hc⟩ := hs.at k hk
    have hck := hc k hk
    rw [Int.toNat_natCast] at hp
    have HP := Lib.hid hp
    generalize m.getD k [] = x at *
    have hkI : (k : Int) < m.length := by omega
    clear hc hp h
    go_enter Tryz.func53, Tryz.ntmps53
    go_wp2
    go_ret2
    exact ⟨ret_page (by rw [HP.out]) (by rw [HP.out]), rfl⟩
  · have hp : pageOf m k = ([], 2) := by unfold pageOf; rw [if_neg h]
    have HP := Lib.hid hp
    clear hp
    by_cases h0 : k < 0
    · go_enter Tryz.func53, Tryz.ntmps53
      go_wp2
      go_ret2
      exact ⟨ret_page (by rw [HP.out]) (by rw [HP.out]), rfl⟩
    · have h1 : (m.length : Int) ≤ k := by omega
      have h0' : 0 ≤ k := by omega
      clear h h0
      go_enter Tryz.func53, Tryz.ntmps53
      go_wp2
      go_ret2
      exact ⟨ret_page (by rw [HP.out]) (by rw [HP.out]), rfl⟩

theorem dsDesc : Tryz.prog.underlying 26 = some (.struct (Tryz.prog.fieldsOf 26)) := by kernel_rfl
theorem dsSize : (Tryz.prog.info? 26).map (·.size) = some 21 := by kernel_rfl
theorem hdDesc : Tryz.prog.underlying 24 = some (.struct (Tryz.prog.fieldsOf 24)) := by kernel_rfl
theorem hdSize : (Tryz.prog.info? 24).map (·.size) = some 7 := by kernel_rfl
/-- A description, a header in a block of its own. -/
def DsAt (w : World) (b : Nat) (d : DS) : Prop := Blk w b (.cells #[.int .i64 d.id, .int .i64 d.org, .int .i64 d.format, .int .i64 d.length, .int .i64 d.block, .int .i64 d.keyAt, .int .i64 d.keyLength, .int .i64 d.interval, .int .i64 d.area, .int .i64 d.freeInterval, .int .i64 d.freeArea, .int .i64 d.base, .int .i64 d.altAt, .int .i64 d.altLength, .bool d.unique, .int .i64 d.cls, .string ⟨d.volume.toArray⟩, .string ⟨d.owner.toArray⟩, .int .i64 d.created, .int .i64 d.expires, .bool d.archived] 26)
def HdAt (w : World) (b : Nat) (h : Hd) : Prop := Blk w b (.cells #[.int .i64 h.applied, .int .i64 h.count, .int .i64 h.fin, .int .i64 h.root, .int .i64 h.height, .int .i64 h.splits, .int .i64 h.areas] 24)
theorem DsAt.ext {w w' : World} {b : Nat} {d : DS} (h : DsAt w b d) (e : Ext w w') : DsAt w' b d := e.blk _ _ h
theorem HdAt.ext {w w' : World} {b : Nat} {d : Hd} (h : HdAt w b d) (e : Ext w w') : HdAt w' b d := e.blk _ _ h
theorem DsAt.alloc {w : World} {b : Nat} {d : DS} (h : DsAt w b d) (o : Obj) : DsAt (w.alloc o) b d := h.ext (Ext.alloc _ _)
theorem HdAt.alloc {w : World} {b : Nat} {d : Hd} (h : HdAt w b d) (o : Obj) : HdAt (w.alloc o) b d := h.ext (Ext.alloc _ _)
theorem wpList_ds {ops : Array Oper} {rest : List Oper} {o : Oper} {a : Act} {w : World} {Q : Exit → Act → World → Prop} (hw : Region.wanted o (yielded ops a.tmps) = true) (x : Operand) (ho : o.op = .load 26 x)
    (g : Nat) (hx : a.eval x = .pointer (some ⟨g, 0, none⟩)) (d : DS) (hb : DsAt w g d) (h : wpList Tryz.prog ops Q rest (a.put o.dst (.agg #[.int .i64 d.id, .int .i64 d.org, .int .i64 d.format, .int .i64 d.length, .int .i64 d.block, .int .i64 d.keyAt, .int .i64 d.keyLength, .int .i64 d.interval, .int .i64 d.area, .int .i64 d.freeInterval, .int .i64 d.freeArea, .int .i64 d.base, .int .i64 d.altAt, .int .i64 d.altLength, .bool d.unique, .int .i64 d.cls, .string ⟨d.volume.toArray⟩, .string ⟨d.owner.toArray⟩, .int .i64 d.created, .int .i64 d.expires, .bool d.archived])) w) : wpList Tryz.prog ops Q (o :: rest) a w :=
  wpList_row hw 26 x ho g hx _ _ _ hb dsDesc rfl dsSize h
theorem wpList_hd {ops : Array Oper} {rest : List Oper} {o : Oper} {a : Act} {w : World} {Q : Exit → Act → World → Prop} (hw : Region.wanted o (yielded ops a.tmps) = true) (x : Operand) (ho : o.op = .load 24 x)
    (g : Nat) (hx : a.eval x = .pointer (some ⟨g, 0, none⟩)) (d : Hd) (hb : HdAt w g d) (h : wpList Tryz.prog ops Q rest (a.put o.dst (.agg #[.int .i64 d.applied, .int .i64 d.count, .int .i64 d.fin, .int .i64 d.root, .int .i64 d.height, .int .i64 d.splits, .int .i64 d.areas])) w) : wpList Tryz.prog ops Q (o :: rest) a w :=
  wpList_row hw 24 x ho g hx _ _ _ hb hdDesc rfl hdSize h

/-- What stands behind the boxes of a header and a description. -/
theorem hd_ds (w : World) (h : Hd) (d : DS) : Ext w ((w.alloc (.cells #[.int .i64 h.applied, .int .i64 h.count, .int .i64 h.fin, .int .i64 h.root, .int .i64 h.height, .int .i64 h.splits, .int .i64 h.areas] 24)).alloc (.cells #[.int .i64 d.id, .int .i64 d.org, .int .i64 d.format, .int .i64 d.length, .int .i64 d.block, .int .i64 d.keyAt, .int .i64 d.keyLength, .int .i64 d.interval, .int .i64 d.area, .int .i64 d.freeInterval, .int .i64 d.freeArea, .int .i64 d.base, .int .i64 d.altAt, .int .i64 d.altLength, .bool d.unique, .int .i64 d.cls, .string ⟨d.volume.toArray⟩, .string ⟨d.owner.toArray⟩, .int .i64 d.created, .int .i64 d.expires, .bool d.archived] 26)) ∧
    HdAt ((w.alloc (.cells #[.int .i64 h.applied, .int .i64 h.count, .int .i64 h.fin, .int .i64 h.root, .int .i64 h.height, .int .i64 h.splits, .int .i64 h.areas] 24)).alloc (.cells #[.int .i64 d.id, .int .i64 d.org, .int .i64 d.format, .int .i64 d.length, .int .i64 d.block, .int .i64 d.keyAt, .int .i64 d.keyLength, .int .i64 d.interval, .int .i64 d.area, .int .i64 d.freeInterval, .int .i64 d.freeArea, .int .i64 d.base, .int .i64 d.altAt, .int .i64 d.altLength, .bool d.unique, .int .i64 d.cls, .string ⟨d.volume.toArray⟩, .string ⟨d.owner.toArray⟩, .int .i64 d.created, .int .i64 d.expires, .bool d.archived] 26)) w.heap.size h ∧ DsAt ((w.alloc (.cells #[.int .i64 h.applied, .int .i64 h.count, .int .i64 h.fin, .int .i64 h.root, .int .i64 h.height, .int .i64 h.splits, .int .i64 h.areas] 24)).alloc (.cells #[.int .i64 d.id, .int .i64 d.org, .int .i64 d.format, .int .i64 d.length, .int .i64 d.block, .int .i64 d.keyAt, .int .i64 d.keyLength, .int .i64 d.interval, .int .i64 d.area, .int .i64 d.freeInterval, .int .i64 d.freeArea, .int .i64 d.base, .int .i64 d.altAt, .int .i64 d.altLength, .bool d.unique, .int .i64 d.cls, .string ⟨d.volume.toArray⟩, .string ⟨d.owner.toArray⟩, .int .i64 d.created, .int .i64 d.expires, .bool d.archived] 26)) (w.heap.size + 1) d :=
  ⟨(Ext.alloc _ _).trans (Ext.alloc _ _), Blk.alloc (Blk.new w _) _, Blk.new1 _ _ _ (by simp)⟩


theorem pageOf_small {m : List (List UInt8)} (h : Small m) (k : Int) : (pageOf m k).1.length ≤ 1000000 := by
  unfold pageOf
  split
  · exact h.at _
  · simp
/-- A slice of page writes that is read. -/
def Wrts (w : World) (p : Option Addr) (L : List (Int × List UInt8)) : Prop :=
  L = [] ∨ ∃ b off, p = some ⟨b, off, none⟩ ∧ (b < w.heap.size ∧ ∃ cs, Blk w b (.cells cs 65)) ∧ ∀ i, i < L.length → w.cell? ⟨b, off + i * 2, none⟩ = some (.int .i64 (L.getD i (0, [])).1) ∧ w.cell? ⟨b, off + i * 2 + 1, none⟩ = some (.string ⟨(L.getD i (0, [])).2.toArray⟩)
theorem Wrts.ext {w w' : World} {p : Option Addr} {L : List (Int × List UInt8)} (h : Wrts w p L) (e : Ext w w') : Wrts w' p L := by
  rcases h with h | ⟨b, off, hp, ⟨hb, cs, hbk⟩, hc⟩
  · exact .inl h
  · exact .inr ⟨b, off, hp, ⟨Nat.lt_of_lt_of_le hb e.size, cs, e.blk _ _ hbk⟩, fun i hi => ⟨(e.cell b _ hb).trans (hc i hi).1, (e.cell b _ hb).trans (hc i hi).2⟩⟩
theorem wrts_one {w : World} {b : Nat} {k : Int} {s : List UInt8} (h : Blk w b (.cells #[.int .i64 k, .string ⟨s.toArray⟩] 65)) : Wrts w (some ⟨b, 0, none⟩) [(k, s)] := by
  refine .inr ⟨b, 0, rfl, ⟨Blk.lt h, _, h⟩, fun i hi => ?_⟩
  obtain rfl : i = 0 := by simp at hi; exact hi
  exact ⟨Blk.val h 0 _ rfl, Blk.val h 1 _ rfl⟩
/-- A header's block, whatever it holds. -/
def KS (b : Nat) (w : World) : Prop := ∃ old : Array Value, Blk w b (.cells old 24) ∧ old.size = 7
theorem KS.ext {b : Nat} {w w' : World} (h : KS b w) (e : Ext w w') : KS b w' := by obtain ⟨o, h1, h2⟩ := h; exact ⟨o, e.blk _ _ h1, h2⟩
theorem Chg.cell {g : Nat} {w w' : World} (c : Chg g w w') (b i : Nat) (hne : b ≠ g) : w'.cell? ⟨b, i, none⟩ = w.cell? ⟨b, i, none⟩ := World.cell?_of_block (c.block b hne)
theorem wp_putE {P : Program} {o : Oper} {a : Act} {w : World} {K : Act → World → Prop} {Q : Exit → Act → World → Prop} (ty : TypeId) (x y : Operand) (ho : o.op = .store ty x y)
    (g : Nat) (cells : Array Value) (hx : a.eval x = .pointer (some ⟨g, 0, none⟩)) (hy : a.eval y = .agg cells) (hb : KS g w) (hi : (P.info? ty).map (·.size) = some cells.size) (h7 : cells.size = 7) (h1 : cells.all (·.oneCell') = true)
    (h : ∀ w', Blk w' g (.cells cells 24) → Chg g w w' → K (a.put o.dst undef) w') : o.wp P a w K Q := by
  obtain ⟨old, h2, h3⟩ := hb
  exact wp_store_row ty x y ho g cells hx hy _ old h2 hi (h3.trans h7.symm) h1 (h _ (Blk.setRow h2) Chg.setRow)
theorem hd_set7 {w : World} {b : Nat} (h : Blk w b (.cells #[.int .i64 0, .int .i64 0, .int .i64 0, .int .i64 0, .int .i64 0, .int .i64 0, .int .i64 0] 24)) (H : Hd) : Blk (((((((w.setCell ⟨b, 0, none⟩ (.int .i64 H.applied)).setCell ⟨b, 1, none⟩ (.int .i64 H.count)).setCell ⟨b, 2, none⟩ (.int .i64 H.fin)).setCell ⟨b, 3, none⟩ (.int .i64 H.root)).setCell ⟨b, 4, none⟩ (.int .i64 H.height)).setCell ⟨b, 5, none⟩ (.int .i64 H.splits)).setCell ⟨b, 6, none⟩ (.int .i64 H.areas)) b (.cells #[.int .i64 H.applied, .int .i64 H.count, .int .i64 H.fin, .int .i64 H.root, .int .i64 H.height, .int .i64 H.splits, .int .i64 H.areas] 24) ∧ Chg b w (((((((w.setCell ⟨b, 0, none⟩ (.int .i64 H.applied)).setCell ⟨b, 1, none⟩ (.int .i64 H.count)).setCell ⟨b, 2, none⟩ (.int .i64 H.fin)).setCell ⟨b, 3, none⟩ (.int .i64 H.root)).setCell ⟨b, 4, none⟩ (.int .i64 H.height)).setCell ⟨b, 5, none⟩ (.int .i64 H.splits)).setCell ⟨b, 6, none⟩ (.int .i64 H.areas)) :=
  ⟨(Blk.setCell (i := 6) (v := .int .i64 H.areas) (Blk.setCell (i := 5) (v := .int .i64 H.splits) (Blk.setCell (i := 4) (v := .int .i64 H.height) (Blk.setCell (i := 3) (v := .int .i64 H.root) (Blk.setCell (i := 2) (v := .int .i64 H.fin) (Blk.setCell (i := 1) (v := .int .i64 H.count) (Blk.setCell (i := 0) (v := .int .i64 H.applied) h))))))), ((((((Chg.setCell).trans Chg.setCell).trans Chg.setCell).trans Chg.setCell).trans Chg.setCell).trans Chg.setCell).trans Chg.setCell⟩
theorem Blk.below {w w' : World} {B b : Nat} {o : Obj} (h : Blk w b o) (k : Below B w w') (hb : b < B) : Blk w' b o := (k.block b hb).trans h
theorem hd_one (h : Hd) : (#[.int .i64 h.applied, .int .i64 h.count, .int .i64 h.fin, .int .i64 h.root, .int .i64 h.height, .int .i64 h.splits, .int .i64 h.areas] : Array Value).all (·.oneCell') = true := by simp [Value.oneCell']
theorem take_snocX {α : Type} [DecidableEq α] (d : α) (A B : List α) (k : Nat) (ha : k < A.length) (hb : k < B.length) (h : A.take k = B.take k) (h2 : A.getD k d = B.getD k d) : A.take (k + 1) = B.take (k + 1) := by
  rw [List.take_succ_eq_append_getElem ha, List.take_succ_eq_append_getElem hb, h]
  simp [List.getD, ha, hb] at h2
  rw [h2]
theorem Wrts.at {w : World} {p : Option Addr} {L : List (Int × List UInt8)} (h : Wrts w p L) (k : Nat) (hk : k < L.length) :
    ∃ b off, p = some ⟨b, off, none⟩ ∧ b < w.heap.size ∧ ∀ i, i < L.length → w.cell? ⟨b, off + i * 2, none⟩ = some (.int .i64 (L.getD i (0, [])).1) ∧ w.cell? ⟨b, off + i * 2 + 1, none⟩ = some (.string ⟨(L.getD i (0, [])).2.toArray⟩) := by
  rcases h with h | ⟨b, off, h1, ⟨h2, _⟩, h3⟩
  · subst h; simp at hk
  · exact ⟨b, off, h1, h2, h3⟩
/-- A slice of pairs that is read. -/
def Prs (w : World) (p : Option Addr) (L : List (List UInt8 × List UInt8)) : Prop :=
  L = [] ∨ ∃ b off, p = some ⟨b, off, none⟩ ∧ b < w.heap.size ∧ ∀ i, i < L.length → w.cell? ⟨b, off + i * 2, none⟩ = some (.string ⟨(L.getD i ([], [])).1.toArray⟩) ∧ w.cell? ⟨b, off + i * 2 + 1, none⟩ = some (.string ⟨(L.getD i ([], [])).2.toArray⟩)
theorem Prs.ext {w w' : World} {p : Option Addr} {L : List (List UInt8 × List UInt8)} (h : Prs w p L) (e : Ext w w') : Prs w' p L := by
  rcases h with h | ⟨b, off, hp, hb, hc⟩
  · exact .inl h
  · exact .inr ⟨b, off, hp, Nat.lt_of_lt_of_le hb e.size, fun i hi => ⟨(e.cell b _ hb).trans (hc i hi).1, (e.cell b _ hb).trans (hc i hi).2⟩⟩
theorem Prs.at {w : World} {p : Option Addr} {L : List (List UInt8 × List UInt8)} (h : Prs w p L) (k : Nat) (hk : k < L.length) :
    ∃ b off, p = some ⟨b, off, none⟩ ∧ b < w.heap.size ∧ ∀ i, i < L.length → w.cell? ⟨b, off + i * 2, none⟩ = some (.string ⟨(L.getD i ([], [])).1.toArray⟩) ∧ w.cell? ⟨b, off + i * 2 + 1, none⟩ = some (.string ⟨(L.getD i ([], [])).2.toArray⟩) := by
  rcases h with h | h
  · subst h; simp at hk
  · exact h

theorem writeFields : (Tryz.prog.fieldsOf 65).toList.map (fun f => (f.name, f.type, f.offset)) = [("Page", 3, 0), ("Data", 9, 1)] := by kernel_rfl
theorem writeHeld : Tryz.prog.stoodInHeld 65 = false := by kernel_rfl
theorem writeGuard : Tryz.prog.eqGuardType Tryz.prog.depth 65 = false := by kernel_rfl
theorem writeDesc : Tryz.prog.underlying 65 = some (.struct (Tryz.prog.fieldsOf 65)) := by kernel_rfl
/-- Slots are compared field by field. -/
theorem write_equal (u u' : Int) (x x' : List UInt8) (W : World) : (Op.equalIn 10000 65 (.agg #[.int .i64 u, .string ⟨x.toArray⟩]) (.agg #[.int .i64 u', .string ⟨x'.toArray⟩])).run Tryz.prog W = .ok ((u, x) == (u', x')) W := by
  rw [run_equalIn_agg W 9999 65 _ _ writeDesc writeHeld]
  have h := writeFields
  generalize (Tryz.prog.fieldsOf 65).toList = fs at *
  have hl : fs.length = 2 := by simpa using congrArg List.length h
  obtain ⟨f, g, rfl⟩ : ∃ f g, fs = [f, g] := by
    cases fs with
    | nil => simp at hl
    | cons f fs =>
      cases fs with
      | nil => simp at hl
      | cons g fs =>
        cases fs with
        | nil => exact ⟨f, g, rfl⟩
        | cons _ _ => simp at hl
  simp at h
  obtain ⟨⟨a1, a2, a3⟩, b1, b2, b3⟩ := h
  simp [Op.eqFields, a1, a2, a3, b1, b2, b3, go_sem]
  by_cases h1 : u = u'
  · by_cases h2 : x = x'
    · simp [h1, h2]
    · simp [h1, h2]
  · simp [h1]



set_option maxRecDepth 100000 in
theorem Ints_any (p q : Option Addr) (cap n cap' n' : Nat) (A B : List Int) (w : World) (hA : Ints w p A) (hB : Ints w q B) (hn : A.length = n) (hn' : B.length = n') (hLA : A.length ≤ 1000000) (hLB : B.length ≤ 1000000) :
    Calls Tryz.prog 13 #[.slice p n cap, .slice q n' cap'] w fun e w' => e = .returned (.bool (A == B)) ∧ ∃ n, w' = w.drewN n := by
  subst hn hn'
  by_cases hne : A.length = B.length
  · have hneI : ((A.length : Int) != (B.length : Int)) = false := by simp [hne]
    have Hne := Lib.hid hne
    clear hne
    go_enter Tryz.func13, Tryz.ntmps13
    go_wp2
    obtain ⟨wo, rfl⟩ : ∃ wo : World, wo = w := ⟨_, rfl⟩
    go_loopw [5] (fun i wr => ∃ k : Nat, k ≤ A.length ∧ i = .int .i64 k ∧ A.take k = B.take k ∧ ∃ n, wr = wo.drewN n) (fun i _ => A.length - (intOf i).toNat)
    case atStart => exact ⟨0, Nat.zero_le _, rfl, by simp, 0, rfl⟩
    case round =>
      obtain ⟨k, hk, rfl, hq, nr, rfl⟩ := hrel
      by_cases hlt : k < A.length
      · have hlt' : k < B.length := by rw [← Hne.out]; exact hlt
        have hltI : (k : Int) < A.length := by omega
        have hltI' : (k : Int) < B.length := by omega
        obtain ⟨b, off, rfl, hb, hc⟩ := hA.at k hlt
        obtain ⟨b', off', rfl, hb', hc'⟩ := hB.at k hlt'
        have hck := hc k hlt
        have hck' := hc' k hlt'
        have HS := Lib.hid (take_snocX 0 A B k hlt hlt' hq)
        have HN : Hid (¬ A.getD k 0 = B.getD k 0 → (A == B) = false) := Lib.hid (fun h => by simp; intro h'; subst h'; exact h rfl)
        clear hc hc' hA hB hq
        generalize A.getD k 0 = s at *
        generalize B.getD k 0 = s' at *
        by_cases hss : s = s'
        · have hssI : (s != s') = false := by simp [hss]
          have HSS := Lib.hid hss
          clear hss
          go_wp2
          go_quiet (fail)
          go_wp2
          go_roundw
          case rel => exact ⟨k + 1, by omega, by go_num, HS.out HSS.out, nr + nq, by first | rfl | exact World.drewN_drewN _ _ _⟩
          case measure => simp [intOf]; omega
        · have hssI : (s != s') = true := by simpa using hss
          have HSS := Lib.hid hss
          clear hss
          go_wp2
          go_quiet (fail)
          go_wp2
          go_ret
          exact ⟨ret_bool (HN.out HSS.out).symm, nr + nq, by first | rfl | exact World.drewN_drewN _ _ _⟩
      · go_wp2
        go_ret
        rw [List.take_of_length_le (by omega), List.take_of_length_le (by have := Hne.out; omega)] at hq
        exact ⟨by simp [hq], nr, rfl⟩
  · have hne' : ((A.length : Int) != (B.length : Int)) = true := by simp; omega
    have HN := Lib.hid hne
    clear hne
    go_enter Tryz.func13, Tryz.ntmps13
    go_wp2
    go_ret
    exact ⟨by have : ¬ A = B := fun h => HN.out (by rw [h]); simp [this], 0, rfl⟩
theorem Small_any (p : Option Addr) (cap n : Nat) (L : List (List UInt8)) (most : Nat) (w : World) (hs : Strs w p L) (hn : L.length = n) (hL : L.length ≤ maxLen) :
    Calls Tryz.prog 25 #[.slice p n cap, .int .i64 most] w fun e w' => e = .returned (.bool (shortB L most 600)) ∧ w = w' := by
  go_enter Tryz.func25, Tryz.ntmps25
  go_wp2_with (go_at_call 18; refine (Short_any p cap n L most 600 _ hs hn hL).mono ?_; rintro e w' ⟨rfl, rfl⟩)
  go_ret
  exact ⟨rfl, rfl⟩
theorem hdFields : (Tryz.prog.fieldsOf 24).toList.map (fun f => (f.name, f.type, f.offset)) = [("Applied", 3, 0), ("Count", 3, 1), ("End", 3, 2), ("Root", 3, 3), ("Height", 3, 4), ("Splits", 3, 5), ("Areas", 3, 6)] := by kernel_rfl
theorem hdHeld : Tryz.prog.stoodInHeld 24 = false := by kernel_rfl
theorem hdGuard : Tryz.prog.eqGuardType Tryz.prog.depth 24 = false := by kernel_rfl
theorem list7 {α : Type} (l : List α) (h : l.length = 7) : ∃ a b c d e f g, l = [a, b, c, d, e, f, g] := by
  rcases l with _ | ⟨a, _ | ⟨b, _ | ⟨c, _ | ⟨d, _ | ⟨e, _ | ⟨f, _ | ⟨g, _ | ⟨x, l⟩⟩⟩⟩⟩⟩⟩⟩ <;> simp at h
  exact ⟨a, b, c, d, e, f, g, rfl⟩
/-- Headers are compared field by field. -/
theorem hd_equal (H G : Hd) (W : World) : (Op.equalIn 10000 24 (.agg #[.int .i64 H.applied, .int .i64 H.count, .int .i64 H.fin, .int .i64 H.root, .int .i64 H.height, .int .i64 H.splits, .int .i64 H.areas]) (.agg #[.int .i64 G.applied, .int .i64 G.count, .int .i64 G.fin, .int .i64 G.root, .int .i64 G.height, .int .i64 G.splits, .int .i64 G.areas])).run Tryz.prog W = .ok (decide (H = G)) W := by
  rw [run_equalIn_agg W 9999 24 _ _ hdDesc hdHeld]
  have h := hdFields
  generalize (Tryz.prog.fieldsOf 24).toList = fs at *
  have hl : fs.length = 7 := by simpa using congrArg List.length h
  obtain ⟨a, b, c, d, e, f, g, rfl⟩ := list7 fs hl
  simp at h
  obtain ⟨⟨a1, a2, a3⟩, ⟨b1, b2, b3⟩, ⟨c1, c2, c3⟩, ⟨d1, d2, d3⟩, ⟨e1, e2, e3⟩, ⟨f1, f2, f3⟩, g1, g2, g3⟩ := h
  obtain ⟨x1, x2, x3, x4, x5, x6, x7⟩ := H
  obtain ⟨y1, y2, y3, y4, y5, y6, y7⟩ := G
  simp [Op.eqFields, a1, a2, a3, b1, b2, b3, c1, c2, c3, d1, d2, d3, e1, e2, e3, f1, f2, f3, g1, g2, g3, go_sem]
  (repeat' split) <;> simp_all
theorem short_small {L : List (List UInt8)} {k : Nat} (h : shortB L k 600 = true) (hk : k ≤ 1000) : Small L := by
  unfold shortB at h
  simp at h
  exact ⟨by omega, fun s hs => by have := h.2 s hs; omega⟩
theorem ints_same (p q : Option Addr) (c n c' n' : Nat) (A : List Int) (w : World) (hA : Ints w p A) (hB : Ints w q A) (hn : n = A.length) (hn' : n' = A.length) (hl : A.length ≤ 1000000) :
    Calls Tryz.prog 13 #[.slice p n c, .slice q n' c'] w fun e w' => e = .returned (.bool true) ∧ Ext w w' :=
  (Ints_any p q c n c' n' A A w hA hB hn.symm hn'.symm hl hl).mono fun e w' ⟨h, hw⟩ => ⟨by rw [h]; simp, Ext.of_drawn hw⟩
def prCells (L : List (List UInt8 × List UInt8)) : List Value := L.flatMap fun x => [.string ⟨x.1.toArray⟩, .string ⟨x.2.toArray⟩]
theorem prCells_at (L : List (List UInt8 × List UInt8)) (i : Nat) (h : i < L.length) : (prCells L)[i * 2]? = some (.string ⟨(L.getD i ([], [])).1.toArray⟩) ∧ (prCells L)[i * 2 + 1]? = some (.string ⟨(L.getD i ([], [])).2.toArray⟩) := by
  induction L generalizing i with
  | nil => simp at h
  | cons x L ih =>
    have e : prCells (x :: L) = .string ⟨x.1.toArray⟩ :: .string ⟨x.2.toArray⟩ :: prCells L := by simp [prCells]
    rw [e]
    cases i with
    | zero => simp
    | succ i =>
      have := ih i (by simpa using h)
      rw [show (i + 1) * 2 = i * 2 + 2 by omega, show i * 2 + 2 + 1 = (i * 2 + 1) + 2 by omega]
      simpa using this
theorem prCells_len (L : List (List UInt8 × List UInt8)) : (prCells L).length = 2 * L.length := by
  induction L with
  | nil => rfl
  | cons x L ih => simp [prCells] at ih ⊢; omega
theorem prCells_snoc (L : List (List UInt8 × List UInt8)) (x : List UInt8 × List UInt8) : prCells (L ++ [x]) = prCells L ++ [.string ⟨x.1.toArray⟩, .string ⟨x.2.toArray⟩] := by simp [prCells]
/-- What stands behind the boxes of a header and a description, and a new cluster. -/
theorem hd_ds_cl (w : World) (h : Hd) (d : DS) (cs : Array Value) (t : TypeId) :
    Ext w (((w.alloc (.cells #[.int .i64 h.applied, .int .i64 h.count, .int .i64 h.fin, .int .i64 h.root, .int .i64 h.height, .int .i64 h.splits, .int .i64 h.areas] 24)).alloc (.cells #[.int .i64 d.id, .int .i64 d.org, .int .i64 d.format, .int .i64 d.length, .int .i64 d.block, .int .i64 d.keyAt, .int .i64 d.keyLength, .int .i64 d.interval, .int .i64 d.area, .int .i64 d.freeInterval, .int .i64 d.freeArea, .int .i64 d.base, .int .i64 d.altAt, .int .i64 d.altLength, .bool d.unique, .int .i64 d.cls, .string ⟨d.volume.toArray⟩, .string ⟨d.owner.toArray⟩, .int .i64 d.created, .int .i64 d.expires, .bool d.archived] 26)).alloc (.cells cs t)) ∧
    HdAt (((w.alloc (.cells #[.int .i64 h.applied, .int .i64 h.count, .int .i64 h.fin, .int .i64 h.root, .int .i64 h.height, .int .i64 h.splits, .int .i64 h.areas] 24)).alloc (.cells #[.int .i64 d.id, .int .i64 d.org, .int .i64 d.format, .int .i64 d.length, .int .i64 d.block, .int .i64 d.keyAt, .int .i64 d.keyLength, .int .i64 d.interval, .int .i64 d.area, .int .i64 d.freeInterval, .int .i64 d.freeArea, .int .i64 d.base, .int .i64 d.altAt, .int .i64 d.altLength, .bool d.unique, .int .i64 d.cls, .string ⟨d.volume.toArray⟩, .string ⟨d.owner.toArray⟩, .int .i64 d.created, .int .i64 d.expires, .bool d.archived] 26)).alloc (.cells cs t)) w.heap.size h ∧
    DsAt (((w.alloc (.cells #[.int .i64 h.applied, .int .i64 h.count, .int .i64 h.fin, .int .i64 h.root, .int .i64 h.height, .int .i64 h.splits, .int .i64 h.areas] 24)).alloc (.cells #[.int .i64 d.id, .int .i64 d.org, .int .i64 d.format, .int .i64 d.length, .int .i64 d.block, .int .i64 d.keyAt, .int .i64 d.keyLength, .int .i64 d.interval, .int .i64 d.area, .int .i64 d.freeInterval, .int .i64 d.freeArea, .int .i64 d.base, .int .i64 d.altAt, .int .i64 d.altLength, .bool d.unique, .int .i64 d.cls, .string ⟨d.volume.toArray⟩, .string ⟨d.owner.toArray⟩, .int .i64 d.created, .int .i64 d.expires, .bool d.archived] 26)).alloc (.cells cs t)) (w.heap.size + 1) d ∧
    Blk (((w.alloc (.cells #[.int .i64 h.applied, .int .i64 h.count, .int .i64 h.fin, .int .i64 h.root, .int .i64 h.height, .int .i64 h.splits, .int .i64 h.areas] 24)).alloc (.cells #[.int .i64 d.id, .int .i64 d.org, .int .i64 d.format, .int .i64 d.length, .int .i64 d.block, .int .i64 d.keyAt, .int .i64 d.keyLength, .int .i64 d.interval, .int .i64 d.area, .int .i64 d.freeInterval, .int .i64 d.freeArea, .int .i64 d.base, .int .i64 d.altAt, .int .i64 d.altLength, .bool d.unique, .int .i64 d.cls, .string ⟨d.volume.toArray⟩, .string ⟨d.owner.toArray⟩, .int .i64 d.created, .int .i64 d.expires, .bool d.archived] 26)).alloc (.cells cs t)) (w.heap.size + 1 + 1) (.cells cs t) := by
  obtain ⟨h1, h2, h3⟩ := hd_ds w h d
  exact ⟨h1.trans (Ext.alloc _ _), h2.alloc _, h3.alloc _, Blk.new1 _ _ _ (by simp)⟩
theorem method_page (f : Nat) (p : Option Addr) (n cap : Nat) (w : World) : (method (f + 1) 29 (.slice p n cap) "Page").run Tryz.prog w = .ok (53, .slice p n cap) w := by kernel_rfl
end Go.Proofs.YtolmoknjmdmpgaaGreat
