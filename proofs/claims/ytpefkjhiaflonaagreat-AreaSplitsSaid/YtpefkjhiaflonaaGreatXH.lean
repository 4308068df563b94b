/- Words of chapter 18 that later chapters use: headers, descriptions, page writes, pairs, their comparisons, Memory.Page, Door. -/
import Derived.Test.YtpefkjhiaflonaaGreatGA
import Derived.Test.YtpefkjhiaflonaaGreatX1
import Derived.Test.YtpefkjhiaflonaaGreatX2
import Derived.Test.YtpefkjhiaflonaaGreatPB
import Derived.Test.YtpefkjhiaflonaaGreatW1
import Derived.Deep.DeepCutAuto
import Derived.Laws.StructEq
set_option linter.unusedSimpArgs false
set_option linter.unusedVariables false
namespace Go.Proofs.YtpefkjhiaflonaaGreat
open Go.RowKit Dsd


theorem dsDesc : Tryz.prog.underlying 23 = some (.struct (Tryz.prog.fieldsOf 23)) := by kernel_rfl
theorem dsSize : (Tryz.prog.info? 23).map (·.size) = some 21 := by kernel_rfl
/-- A description, a header in a block of its own. -/
def DsAt (w : World) (b : Nat) (d : DS) : Prop := Blk w b (.cells #[.int .i64 d.id, .int .i64 d.org, .int .i64 d.format, .int .i64 d.length, .int .i64 d.block, .int .i64 d.keyAt, .int .i64 d.keyLength, .int .i64 d.interval, .int .i64 d.area, .int .i64 d.freeInterval, .int .i64 d.freeArea, .int .i64 d.base, .int .i64 d.altAt, .int .i64 d.altLength, .bool d.unique, .int .i64 d.cls, .string ⟨d.volume.toArray⟩, .string ⟨d.owner.toArray⟩, .int .i64 d.created, .int .i64 d.expires, .bool d.archived] 23)
theorem DsAt.ext {w w' : World} {b : Nat} {d : DS} (h : DsAt w b d) (e : Ext w w') : DsAt w' b d := e.blk _ _ h
theorem wpList_ds {ops : Array Oper} {rest : List Oper} {o : Oper} {a : Act} {w : World} {Q : Exit → Act → World → Prop} (hw : Region.wanted o (yielded ops a.tmps) = true) (x : Operand) (ho : o.op = .load 23 x)
    (g : Nat) (hx : a.eval x = .pointer (some ⟨g, 0, none⟩)) (d : DS) (hb : DsAt w g d) (h : wpList Tryz.prog ops Q rest (a.put o.dst (.agg #[.int .i64 d.id, .int .i64 d.org, .int .i64 d.format, .int .i64 d.length, .int .i64 d.block, .int .i64 d.keyAt, .int .i64 d.keyLength, .int .i64 d.interval, .int .i64 d.area, .int .i64 d.freeInterval, .int .i64 d.freeArea, .int .i64 d.base, .int .i64 d.altAt, .int .i64 d.altLength, .bool d.unique, .int .i64 d.cls, .string ⟨d.volume.toArray⟩, .string ⟨d.owner.toArray⟩, .int .i64 d.created, .int .i64 d.expires, .bool d.archived])) w) : wpList Tryz.prog ops Q (o :: rest) a w :=
  wpList_row hw 23 x ho g hx _ _ _ hb dsDesc rfl dsSize h



/-- A slice of page writes that is read. -/
def Wrts (w : World) (p : Option Addr) (L : List (Int × List UInt8)) : Prop :=
  L = [] ∨ ∃ b off, p = some ⟨b, off, none⟩ ∧ (b < w.heap.size ∧ ∃ cs, Blk w b (.cells cs 63)) ∧ ∀ i, i < L.length → w.cell? ⟨b, off + i * 2, none⟩ = some (.int .i64 (L.getD i (0, [])).1) ∧ w.cell? ⟨b, off + i * 2 + 1, none⟩ = some (.string ⟨(L.getD i (0, [])).2.toArray⟩)
theorem Wrts.ext {w w' : World} {p : Option Addr} {L : List (Int × List UInt8)} (h : Wrts w p L) (e : Ext w w') : Wrts w' p L := by
  rcases h with h | ⟨b, off, hp, ⟨hb, cs, hbk⟩, hc⟩
  · exact .inl h
  · exact .inr ⟨b, off, hp, ⟨Nat.lt_of_lt_of_le hb e.size, cs, e.blk _ _ hbk⟩, fun i hi => ⟨(e.cell b _ hb).trans (hc i hi).1, (e.cell b _ hb).trans (hc i hi).2⟩⟩
theorem Chg.cell {g : Nat} {w w' : World} (c : Chg g w w') (b i : Nat) (hne : b ≠ g) : w'.cell? ⟨b, i, none⟩ = w.cell? ⟨b, i, none⟩ := World.cell?_of_block (c.block b hne)
theorem Blk.below {w w' : World} {B b : Nat} {o : Obj} (h : Blk w b o) (k : Below B w w') (hb : b < B) : Blk w' b o := (k.block b hb).trans h
theorem take_snocX {α : Type} [DecidableEq α] (d : α) (A B : List α) (k : Nat) (ha : k < A.length) (hb : k < B.length) (h : A.take k = B.take k) (h2 : A.getD k d = B.getD k d) : A.take (k + 1) = B.take (k + 1) := by
  rw [List.take_succ_eq_append_getElem ha, List.take_succ_eq_append_getElem hb, h]
  simp [List.getD, ha, hb] at h2
  rw [h2]
theorem Wrts.at {w : World} {p : Option Addr} {L : List (Int × List UInt8)} (h : Wrts w p L) (k : Nat) (hk : k < L.length) :
    ∃ b off, p = some ⟨b, off, none⟩ ∧ b < w.heap.size ∧ ∀ i, i < L.length → w.cell? ⟨b, off + i * 2, none⟩ = some (.int .i64 (L.getD i (0, [])).1) ∧ w.cell? ⟨b, off + i * 2 + 1, none⟩ = some (.string ⟨(L.getD i (0, [])).2.toArray⟩) := by
  rcases h with h | ⟨b, off, h1, ⟨h2, _⟩, h3⟩
  · subst h; simp at hk
  · exact ⟨b, off, h1, h2, h3⟩

theorem writeFields : (Tryz.prog.fieldsOf 63).toList.map (fun f => (f.name, f.type, f.offset)) = [("Page", 3, 0), ("Data", 9, 1)] := by kernel_rfl
theorem writeHeld : Tryz.prog.stoodInHeld 63 = false := by kernel_rfl
theorem writeGuard : Tryz.prog.eqGuardType Tryz.prog.depth 63 = false := by kernel_rfl
theorem writeDesc : Tryz.prog.underlying 63 = some (.struct (Tryz.prog.fieldsOf 63)) := by kernel_rfl
/-- Slots are compared field by field. -/
theorem write_equal (u u' : Int) (x x' : List UInt8) (W : World) : (Op.equalIn 10000 63 (.agg #[.int .i64 u, .string ⟨x.toArray⟩]) (.agg #[.int .i64 u', .string ⟨x'.toArray⟩])).run Tryz.prog W = .ok ((u, x) == (u', x')) W := by
  rw [run_equalIn_agg W 9999 63 _ _ writeDesc writeHeld]
  have h := writeFields
  generalize (Tryz.prog.fieldsOf 63).toList = fs at *
  have hl : fs.length = 2 := by simpa using congrArg List.length h
  obtain ⟨f, g, rfl⟩ : ∃ f g, fs = [f, g] := by
    cases fs with
    | nil => simp at hl
    | cons f fs =>
      cases fs with
      | nil => simp at hl
      | cons g fs =>
        cases fs with
        | nil => exact ⟨f, g, rfl⟩
        | cons _ _ => simp at hl
  simp at h
  obtain ⟨⟨a1, a2, a3⟩, b1, b2, b3⟩ := h
  simp [Op.eqFields, a1, a2, a3, b1, b2, b3, go_sem]
  by_cases h1 : u = u'
  · by_cases h2 : x = x'
    · simp [h1, h2]
    · simp [h1, h2]
  · simp [h1]

set_option maxRecDepth 100000 in
theorem SameWrites_any (p q : Option Addr) (cap n cap' n' : Nat) (A B : List (Int × List UInt8)) (w : World) (hA : Wrts w p A) (hB : Wrts w q B) (hn : A.length = n) (hn' : B.length = n') (hLA : A.length ≤ 1000000) (hLB : B.length ≤ 1000000) :
    Calls Tryz.prog 13 #[.slice p n cap, .slice q n' cap'] w fun e w' => e = .returned (.bool (A == B)) ∧ ∃ n, w' = w.drewN n := by
  subst hn hn'
  by_cases hne : A.length = B.length
  · have hneI : ((A.length : Int) != (B.length : Int)) = false := by simp [hne]
    have Hne := Lib.hid hne
    clear hne
    go_enter Tryz.func13, Tryz.ntmps13
    go_wp2
    obtain ⟨wo, rfl⟩ : ∃ wo : World, wo = w := ⟨_, rfl⟩
    go_loopw [5] (fun i wr => ∃ k : Nat, k ≤ A.length ∧ i = .int .i64 k ∧ A.take k = B.take k ∧ ∃ n, wr = wo.drewN n) (fun i _ => A.length - (intOf i).toNat)
    case atStart => exact ⟨0, Nat.zero_le _, rfl, by simp, 0, rfl⟩
    case round =>
      obtain ⟨k, hk, rfl, hq, nr, rfl⟩ := hrel
      by_cases hlt : k < A.length
      · have hlt' : k < B.length := by rw [← Hne.out]; exact hlt
        have hltI : (k : Int) < A.length := by omega
        have hltI' : (k : Int) < B.length := by omega
        obtain ⟨b, off, rfl, hb, hc⟩ := hA.at k hlt
        obtain ⟨b', off', rfl, hb', hc'⟩ := hB.at k hlt'
        obtain ⟨hck, hck2⟩ := hc k hlt
        obtain ⟨hck', hck2'⟩ := hc' k hlt'
        have HS := Lib.hid (take_snocX (0, []) A B k hlt hlt' hq)
        have HN : Hid (¬ A.getD k (0, []) = B.getD k (0, []) → (A == B) = false) := Lib.hid (fun h => by simp; intro h'; subst h'; exact h rfl)
        clear hc hc' hA hB hq
        generalize A.getD k (0, []) = s at *
        generalize B.getD k (0, []) = s' at *
        obtain ⟨u, x⟩ := s
        obtain ⟨u', x'⟩ := s'
        simp only at hck hck2 hck' hck2'
        have hE := write_equal u u' x x'
        have hG := writeGuard
        go_wp2
        go_quiet (fail)
        go_wp2
        · have hd : ¬ (u, x) = (u', x') := by rename_i h; simpa using h
          go_ret
          exact ⟨ret_bool (HN.out hd).symm, nr + nq, World.drewN_drewN _ _ _⟩
        · have hd : (u, x) = (u', x') := by rename_i h; simpa using h
          go_roundw
          case rel => exact ⟨k + 1, by omega, by go_num, HS.out hd, nr + nq, rfl⟩
          case measure => simp [intOf]; omega
      · go_wp2
        go_ret
        rw [List.take_of_length_le (by omega), List.take_of_length_le (by have := Hne.out; omega)] at hq
        exact ⟨by simp [hq], nr, rfl⟩
  · have hne' : ((A.length : Int) != (B.length : Int)) = true := by simp; omega
    have HN := Lib.hid hne
    clear hne
    go_enter Tryz.func13, Tryz.ntmps13
    go_wp2
    go_ret
    exact ⟨by have : ¬ A = B := fun h => HN.out (by rw [h]); simp [this], 0, rfl⟩


def prCells (L : List (List UInt8 × List UInt8)) : List Value := L.flatMap fun x => [.string ⟨x.1.toArray⟩, .string ⟨x.2.toArray⟩]
end Go.Proofs.YtpefkjhiaflonaaGreat
