/- A part of the proof. -/
import Derived.Test.YtifmbcjbccedfaaGreatDoorX2
import Derived.Test.YtifmbcjbccedfaaGreatDoorW1
import Derived.Deep.DeepCutAuto
import Derived.Laws.StructEq
set_option linter.unusedSimpArgs false
set_option linter.unusedVariables false
namespace Go.Proofs.YtifmbcjbccedfaaGreatDoor
open Go.RowKit Dsd
theorem ret_page {a b : List UInt8} {c e : Int} (h1 : a = b) (h2 : c = e) : Ending.returned (.tuple #[.string ⟨a.toArray⟩, .int .i64 c]) = .returned (.tuple #[.string ⟨b.toArray⟩, .int .i64 e]) := by rw [h1, h2]
theorem Page_any (p : Option Addr) (cap n : Nat) (m : List (List UInt8)) (k : Int) (w : World) (hs : Strs w p m) (hn : m.length = n) (hm : n ≤ 1000000) :
   Calls Tryz.prog 34 #[.slice p n cap, .int .i64 k] w fun e w' => e = .returned (.tuple #[.string ⟨(pageOf m k).1.toArray⟩, .int .i64 (pageOf m k).2]) ∧ w = w' := by
 subst hn
 by_cases h : 0 ≤ k ∧ k < m.length
 · have hp : pageOf m k = (m.getD k.toNat [], 0) := by unfold pageOf; rw [if_pos h]
   obtain ⟨k, rfl⟩ := Int.eq_ofNat_of_zero_le h.1
   have hk : k < m.length := by omega
   obtain ⟨b, off, rfl, hb, hc⟩ := hs.at k hk
   have hck := hc k hk
   rw [Int.toNat_natCast] at hp
   have HP := Lib.hid hp
   generalize m.getD k [] = x at *
   have hkI : (k : Int) < m.length := by omega
   clear hc hp h
   go_enter Tryz.func34, Tryz.ntmps34
   go_wp2
   go_ret2
   exact ⟨ret_page (by rw [HP.out]) (by rw [HP.out]), rfl⟩
 · have hp : pageOf m k = ([], 2) := by unfold pageOf; rw [if_neg h]
   have HP := Lib.hid hp
   clear hp
   by_cases h0 : k < 0
   · go_enter Tryz.func34, Tryz.ntmps34
     go_wp2
     go_ret2
     exact ⟨ret_page (by rw [HP.out]) (by rw [HP.out]), rfl⟩
   · have h1 : (m.length : Int) ≤ k := by omega
     have h0' : 0 ≤ k := by omega
     clear h h0
     go_enter Tryz.func34, Tryz.ntmps34
     go_wp2
     go_ret2
     exact ⟨ret_page (by rw [HP.out]) (by rw [HP.out]), rfl⟩
theorem dsDesc : Tryz.prog.underlying 23 = some (.struct (Tryz.prog.fieldsOf 23)) := by kernel_rfl
theorem dsSize : (Tryz.prog.info? 23).map (·.size) = some 21 := by kernel_rfl
def DsAt (w : World) (b : Nat) (d : DS) : Prop := Blk w b (.cells #[.int .i64 d.id, .int .i64 d.org, .int .i64 d.format, .int .i64 d.length, .int .i64 d.block, .int .i64 d.keyAt, .int .i64 d.keyLength, .int .i64 d.interval, .int .i64 d.area, .int .i64 d.freeInterval, .int .i64 d.freeArea, .int .i64 d.base, .int .i64 d.altAt, .int .i64 d.altLength, .bool d.unique, .int .i64 d.cls, .string ⟨d.volume.toArray⟩, .string ⟨d.owner.toArray⟩, .int .i64 d.created, .int .i64 d.expires, .bool d.archived] 23)
theorem DsAt.ext {w w' : World} {b : Nat} {d : DS} (h : DsAt w b d) (e : Ext w w') : DsAt w' b d := e.blk _ _ h
theorem DsAt.alloc {w : World} {b : Nat} {d : DS} (h : DsAt w b d) (o : Obj) : DsAt (w.alloc o) b d := h.ext (Ext.alloc _ _)
theorem wpList_ds {ops : Array Oper} {rest : List Oper} {o : Oper} {a : Act} {w : World} {Q : Exit → Act → World → Prop} (hw : Region.wanted o (yielded ops a.tmps) = true) (x : Operand) (ho : o.op = .load 23 x)
   (g : Nat) (hx : a.eval x = .pointer (some ⟨g, 0, none⟩)) (d : DS) (hb : DsAt w g d) (h : wpList Tryz.prog ops Q rest (a.put o.dst (.agg #[.int .i64 d.id, .int .i64 d.org, .int .i64 d.format, .int .i64 d.length, .int .i64 d.block, .int .i64 d.keyAt, .int .i64 d.keyLength, .int .i64 d.interval, .int .i64 d.area, .int .i64 d.freeInterval, .int .i64 d.freeArea, .int .i64 d.base, .int .i64 d.altAt, .int .i64 d.altLength, .bool d.unique, .int .i64 d.cls, .string ⟨d.volume.toArray⟩, .string ⟨d.owner.toArray⟩, .int .i64 d.created, .int .i64 d.expires, .bool d.archived])) w) : wpList Tryz.prog ops Q (o :: rest) a w :=
 wpList_row hw 23 x ho g hx _ _ _ hb dsDesc rfl dsSize h
theorem pageOf_small {m : List (List UInt8)} (h : Small m) (k : Int) : (pageOf m k).1.length ≤ 1000000 := by
 unfold pageOf
 split
 · exact h.at _
 · simp
def Wrts (w : World) (p : Option Addr) (L : List (Int × List UInt8)) : Prop :=
 L = [] ∨ ∃ b off, p = some ⟨b, off, none⟩ ∧ (b < w.heap.size ∧ ∃ cs, Blk w b (.cells cs 91)) ∧ ∀ i, i < L.length → w.cell? ⟨b, off + i * 2, none⟩ = some (.int .i64 (L.getD i (0, [])).1) ∧ w.cell? ⟨b, off + i * 2 + 1, none⟩ = some (.string ⟨(L.getD i (0, [])).2.toArray⟩)
theorem Wrts.ext {w w' : World} {p : Option Addr} {L : List (Int × List UInt8)} (h : Wrts w p L) (e : Ext w w') : Wrts w' p L := by
 rcases h with h | ⟨b, off, hp, ⟨hb, cs, hbk⟩, hc⟩
 · exact .inl h
 · exact .inr ⟨b, off, hp, ⟨Nat.lt_of_lt_of_le hb e.size, cs, e.blk _ _ hbk⟩, fun i hi => ⟨(e.cell b _ hb).trans (hc i hi).1, (e.cell b _ hb).trans (hc i hi).2⟩⟩
theorem Chg.cell {g : Nat} {w w' : World} (c : Chg g w w') (b i : Nat) (hne : b ≠ g) : w'.cell? ⟨b, i, none⟩ = w.cell? ⟨b, i, none⟩ := World.cell?_of_block (c.block b hne)
theorem Blk.below {w w' : World} {B b : Nat} {o : Obj} (h : Blk w b o) (k : Below B w w') (hb : b < B) : Blk w' b o := (k.block b hb).trans h
theorem Wrts.at {w : World} {p : Option Addr} {L : List (Int × List UInt8)} (h : Wrts w p L) (k : Nat) (hk : k < L.length) :
   ∃ b off, p = some ⟨b, off, none⟩ ∧ b < w.heap.size ∧ ∀ i, i < L.length → w.cell? ⟨b, off + i * 2, none⟩ = some (.int .i64 (L.getD i (0, [])).1) ∧ w.cell? ⟨b, off + i * 2 + 1, none⟩ = some (.string ⟨(L.getD i (0, [])).2.toArray⟩) := by
 rcases h with h | ⟨b, off, h1, ⟨h2, _⟩, h3⟩
 · subst h; simp at hk
 · exact ⟨b, off, h1, h2, h3⟩
def Prs (w : World) (p : Option Addr) (L : List (List UInt8 × List UInt8)) : Prop :=
 L = [] ∨ ∃ b off, p = some ⟨b, off, none⟩ ∧ b < w.heap.size ∧ ∀ i, i < L.length → w.cell? ⟨b, off + i * 2, none⟩ = some (.string ⟨(L.getD i ([], [])).1.toArray⟩) ∧ w.cell? ⟨b, off + i * 2 + 1, none⟩ = some (.string ⟨(L.getD i ([], [])).2.toArray⟩)
theorem Prs.ext {w w' : World} {p : Option Addr} {L : List (List UInt8 × List UInt8)} (h : Prs w p L) (e : Ext w w') : Prs w' p L := by
 rcases h with h | ⟨b, off, hp, hb, hc⟩
 · exact .inl h
 · exact .inr ⟨b, off, hp, Nat.lt_of_lt_of_le hb e.size, fun i hi => ⟨(e.cell b _ hb).trans (hc i hi).1, (e.cell b _ hb).trans (hc i hi).2⟩⟩
theorem Prs.at {w : World} {p : Option Addr} {L : List (List UInt8 × List UInt8)} (h : Prs w p L) (k : Nat) (hk : k < L.length) :
   ∃ b off, p = some ⟨b, off, none⟩ ∧ b < w.heap.size ∧ ∀ i, i < L.length → w.cell? ⟨b, off + i * 2, none⟩ = some (.string ⟨(L.getD i ([], [])).1.toArray⟩) ∧ w.cell? ⟨b, off + i * 2 + 1, none⟩ = some (.string ⟨(L.getD i ([], [])).2.toArray⟩) := by
 rcases h with h | h
 · subst h; simp at hk
 · exact h
theorem writeFields : (Tryz.prog.fieldsOf 91).toList.map (fun f => (f.name, f.type, f.offset)) = [("Page", 3, 0), ("Data", 9, 1)] := by kernel_rfl
theorem writeHeld : Tryz.prog.stoodInHeld 91 = false := by kernel_rfl
theorem writeGuard : Tryz.prog.eqGuardType Tryz.prog.depth 91 = false := by kernel_rfl
theorem writeDesc : Tryz.prog.underlying 91 = some (.struct (Tryz.prog.fieldsOf 91)) := by kernel_rfl
theorem write_equal (u u' : Int) (x x' : List UInt8) (W : World) : (Op.equalIn 10000 91 (.agg #[.int .i64 u, .string ⟨x.toArray⟩]) (.agg #[.int .i64 u', .string ⟨x'.toArray⟩])).run Tryz.prog W = .ok ((u, x) == (u', x')) W := by
 rw [run_equalIn_agg W 9999 91 _ _ writeDesc writeHeld]
 have h := writeFields
 generalize (Tryz.prog.fieldsOf 91).toList = fs at *
 have hl : fs.length = 2 := by simpa using congrArg List.length h
 obtain ⟨f, g, rfl⟩ : ∃ f g, fs = [f, g] := by
   cases fs with
   | nil => simp at hl
   | cons f fs =>
     cases fs with
     | nil => simp at hl
     | cons g fs =>
       cases fs with
       | nil => exact ⟨f, g, rfl⟩
       | cons _ _ => simp at hl
 simp at h
 obtain ⟨⟨a1, a2, a3⟩, b1, b2, b3⟩ := h
 simp [Op.eqFields, a1, a2, a3, b1, b2, b3, go_sem]
 by_cases h1 : u = u'
 · by_cases h2 : x = x'
   · simp [h1, h2]
   · simp [h1, h2]
 · simp [h1]
def prCells (L : List (List UInt8 × List UInt8)) : List Value := L.flatMap fun x => [.string ⟨x.1.toArray⟩, .string ⟨x.2.toArray⟩]
theorem method_page (f : Nat) (p : Option Addr) (n cap : Nat) (w : World) : (method (f + 1) 37 (.slice p n cap) "Page").run Tryz.prog w = .ok (34, .slice p n cap) w := by kernel_rfl
end Go.Proofs.YtifmbcjbccedfaaGreatDoor
