/- Lists of page writes, of pairs and of numbers are compared; the words for lists of pairs. -/
import Derived.Test.YtkhlglkipeoalaaDoorX9
import Derived.Laws.StructEq
set_option linter.unusedSimpArgs false
set_option linter.unusedVariables false
namespace Go.Proofs.YtkhlglkipeoalaaDoor
open Go.RowKit Dsd

theorem take_snocX {α : Type} [DecidableEq α] (d : α) (A B : List α) (k : Nat) (ha : k < A.length) (hb : k < B.length) (h : A.take k = B.take k) (h2 : A.getD k d = B.getD k d) : A.take (k + 1) = B.take (k + 1) := by
  rw [List.take_succ_eq_append_getElem ha, List.take_succ_eq_append_getElem hb, h]
  simp [List.getD, ha, hb] at h2
  rw [h2]
theorem Wrts.at {w : World} {p : Option Addr} {L : List (Int × List UInt8)} (h : Wrts w p L) (k : Nat) (hk : k < L.length) :
    ∃ b off, p = some ⟨b, off, none⟩ ∧ b < w.heap.size ∧ ∀ i, i < L.length → w.cell? ⟨b, off + i * 2, none⟩ = some (.int .i64 (L.getD i (0, [])).1) ∧ w.cell? ⟨b, off + i * 2 + 1, none⟩ = some (.string ⟨(L.getD i (0, [])).2.toArray⟩) := by
  rcases h with h | ⟨b, off, h1, ⟨h2, _⟩, h3⟩
  · subst h; simp at hk
  · exact ⟨b, off, h1, h2, h3⟩
/-- A slice of pairs that is read. -/
def Prs (w : World) (p : Option Addr) (L : List (List UInt8 × List UInt8)) : Prop :=
  L = [] ∨ ∃ b off, p = some ⟨b, off, none⟩ ∧ b < w.heap.size ∧ ∀ i, i < L.length → w.cell? ⟨b, off + i * 2, none⟩ = some (.string ⟨(L.getD i ([], [])).1.toArray⟩) ∧ w.cell? ⟨b, off + i * 2 + 1, none⟩ = some (.string ⟨(L.getD i ([], [])).2.toArray⟩)
theorem Prs.ext {w w' : World} {p : Option Addr} {L : List (List UInt8 × List UInt8)} (h : Prs w p L) (e : Ext w w') : Prs w' p L := by
  rcases h with h | ⟨b, off, hp, hb, hc⟩
  · exact .inl h
  · exact .inr ⟨b, off, hp, Nat.lt_of_lt_of_le hb e.size, fun i hi => ⟨(e.cell b _ hb).trans (hc i hi).1, (e.cell b _ hb).trans (hc i hi).2⟩⟩
theorem Prs.at {w : World} {p : Option Addr} {L : List (List UInt8 × List UInt8)} (h : Prs w p L) (k : Nat) (hk : k < L.length) :
    ∃ b off, p = some ⟨b, off, none⟩ ∧ b < w.heap.size ∧ ∀ i, i < L.length → w.cell? ⟨b, off + i * 2, none⟩ = some (.string ⟨(L.getD i ([], [])).1.toArray⟩) ∧ w.cell? ⟨b, off + i * 2 + 1, none⟩ = some (.string ⟨(L.getD i ([], [])).2.toArray⟩) := by
  rcases h with h | h
  · subst h; simp at hk
  · exact h

theorem writeFields : (Tryd.prog.fieldsOf 55).toList.map (fun f => (f.name, f.type, f.offset)) = [("Page", 3, 0), ("Data", 9, 1)] := by kernel_rfl
theorem writeHeld : Tryd.prog.stoodInHeld 55 = false := by kernel_rfl
theorem writeGuard : Tryd.prog.eqGuardType Tryd.prog.depth 55 = false := by kernel_rfl
theorem writeDesc : Tryd.prog.underlying 55 = some (.struct (Tryd.prog.fieldsOf 55)) := by kernel_rfl
/-- Slots are compared field by field. -/
theorem write_equal (u u' : Int) (x x' : List UInt8) (W : World) : (Op.equalIn 10000 55 (.agg #[.int .i64 u, .string ⟨x.toArray⟩]) (.agg #[.int .i64 u', .string ⟨x'.toArray⟩])).run Tryd.prog W = .ok ((u, x) == (u', x')) W := by
  rw [run_equalIn_agg W 9999 55 _ _ writeDesc writeHeld]
  have h := writeFields
  generalize (Tryd.prog.fieldsOf 55).toList = fs at *
  have hl : fs.length = 2 := by simpa using congrArg List.length h
  obtain ⟨f, g, rfl⟩ : ∃ f g, fs = [f, g] := by
    cases fs with
    | nil => simp at hl
    | cons f fs =>
      cases fs with
      | nil => simp at hl
      | cons g fs =>
        cases fs with
        | nil => exact ⟨f, g, rfl⟩
        | cons _ _ => simp at hl
  simp at h
  obtain ⟨⟨a1, a2, a3⟩, b1, b2, b3⟩ := h
  simp [Op.eqFields, a1, a2, a3, b1, b2, b3, go_sem]
  by_cases h1 : u = u'
  · by_cases h2 : x = x'
    · simp [h1, h2]
    · simp [h1, h2]
  · simp [h1]

set_option maxRecDepth 100000 in
theorem SameWrites_any (p q : Option Addr) (cap n cap' n' : Nat) (A B : List (Int × List UInt8)) (w : World) (hA : Wrts w p A) (hB : Wrts w q B) (hn : A.length = n) (hn' : B.length = n') (hLA : A.length ≤ 1000000) (hLB : B.length ≤ 1000000) :
    Calls Tryd.prog 14 #[.slice p n cap, .slice q n' cap'] w fun e w' => e = .returned (.bool (A == B)) ∧ ∃ n, w' = w.drewN n := by
  subst hn hn'
  by_cases hne : A.length = B.length
  · have hneI : ((A.length : Int) != (B.length : Int)) = false := by simp [hne]
    have Hne := Lib.hid hne
    clear hne
    go_enter Tryd.func14, Tryd.ntmps14
    go_wp2
    obtain ⟨wo, rfl⟩ : ∃ wo : World, wo = w := ⟨_, rfl⟩
    go_loopw [5] (fun i wr => ∃ k : Nat, k ≤ A.length ∧ i = .int .i64 k ∧ A.take k = B.take k ∧ ∃ n, wr = wo.drewN n) (fun i _ => A.length - (intOf i).toNat)
    case atStart => exact ⟨0, Nat.zero_le _, rfl, by simp, 0, rfl⟩
    case round =>
      obtain ⟨k, hk, rfl, hq, nr, rfl⟩ := hrel
      by_cases hlt : k < A.length
      · have hlt' : k < B.length := by rw [← Hne.out]; exact hlt
        have hltI : (k : Int) < A.length := by omega
        have hltI' : (k : Int) < B.length := by omega
        obtain ⟨b, off, rfl, hb, hc⟩ := hA.at k hlt
        obtain ⟨b', off', rfl, hb', hc'⟩ := hB.at k hlt'
        obtain ⟨hck, hck2⟩ := hc k hlt
        obtain ⟨hck', hck2'⟩ := hc' k hlt'
        have HS := Lib.hid (take_snocX (0, []) A B k hlt hlt' hq)
        have HN : Hid (¬ A.getD k (0, []) = B.getD k (0, []) → (A == B) = false) := Lib.hid (fun h => by simp; intro h'; subst h'; exact h rfl)
        clear hc hc' hA hB hq
        generalize A.getD k (0, []) = s at *
        generalize B.getD k (0, []) = s' at *
        obtain ⟨u, x⟩ := s
        obtain ⟨u', x'⟩ := s'
        simp only at hck hck2 hck' hck2'
        have hE := write_equal u u' x x'
        have hG := writeGuard
        go_wp2
        go_quiet (fail)
        go_wp2
        · have hd : ¬ (u, x) = (u', x') := by rename_i h; simpa using h
          go_ret
          exact ⟨ret_bool (HN.out hd).symm, nr + nq, World.drewN_drewN _ _ _⟩
        · have hd : (u, x) = (u', x') := by rename_i h; simpa using h
          go_roundw
          case rel => exact ⟨k + 1, by omega, by go_num, HS.out hd, nr + nq, rfl⟩
          case measure => simp [intOf]; omega
      · go_wp2
        go_ret
        rw [List.take_of_length_le (by omega), List.take_of_length_le (by have := Hne.out; omega)] at hq
        exact ⟨by simp [hq], nr, rfl⟩
  · have hne' : ((A.length : Int) != (B.length : Int)) = true := by simp; omega
    have HN := Lib.hid hne
    clear hne
    go_enter Tryd.func14, Tryd.ntmps14
    go_wp2
    go_ret
    exact ⟨by have : ¬ A = B := fun h => HN.out (by rw [h]); simp [this], 0, rfl⟩

theorem pairFields : (Tryd.prog.fieldsOf 61).toList.map (fun f => (f.name, f.type, f.offset)) = [("Key", 9, 0), ("Record", 9, 1)] := by kernel_rfl
theorem pairHeld : Tryd.prog.stoodInHeld 61 = false := by kernel_rfl
theorem pairGuard : Tryd.prog.eqGuardType Tryd.prog.depth 61 = false := by kernel_rfl
theorem pairDesc : Tryd.prog.underlying 61 = some (.struct (Tryd.prog.fieldsOf 61)) := by kernel_rfl
/-- Slots are compared field by field. -/
theorem pair_equal (u u' : List UInt8) (x x' : List UInt8) (W : World) : (Op.equalIn 10000 61 (.agg #[.string ⟨u.toArray⟩, .string ⟨x.toArray⟩]) (.agg #[.string ⟨u'.toArray⟩, .string ⟨x'.toArray⟩])).run Tryd.prog W = .ok ((u, x) == (u', x')) W := by
  rw [run_equalIn_agg W 9999 61 _ _ pairDesc pairHeld]
  have h := pairFields
  generalize (Tryd.prog.fieldsOf 61).toList = fs at *
  have hl : fs.length = 2 := by simpa using congrArg List.length h
  obtain ⟨f, g, rfl⟩ : ∃ f g, fs = [f, g] := by
    cases fs with
    | nil => simp at hl
    | cons f fs =>
      cases fs with
      | nil => simp at hl
      | cons g fs =>
        cases fs with
        | nil => exact ⟨f, g, rfl⟩
        | cons _ _ => simp at hl
  simp at h
  obtain ⟨⟨a1, a2, a3⟩, b1, b2, b3⟩ := h
  simp [Op.eqFields, a1, a2, a3, b1, b2, b3, go_sem]
  by_cases h1 : u = u'
  · by_cases h2 : x = x'
    · simp [h1, h2]
    · simp [h1, h2]
  · simp [h1]

set_option maxRecDepth 100000 in
theorem SamePairs_any (p q : Option Addr) (cap n cap' n' : Nat) (A B : List (List UInt8 × List UInt8)) (w : World) (hA : Prs w p A) (hB : Prs w q B) (hn : A.length = n) (hn' : B.length = n') (hLA : A.length ≤ 1000000) (hLB : B.length ≤ 1000000) :
    Calls Tryd.prog 26 #[.slice p n cap, .slice q n' cap'] w fun e w' => e = .returned (.bool (A == B)) ∧ ∃ n, w' = w.drewN n := by
  subst hn hn'
  by_cases hne : A.length = B.length
  · have hneI : ((A.length : Int) != (B.length : Int)) = false := by simp [hne]
    have Hne := Lib.hid hne
    clear hne
    go_enter Tryd.func26, Tryd.ntmps26
    go_wp2
    obtain ⟨wo, rfl⟩ : ∃ wo : World, wo = w := ⟨_, rfl⟩
    go_loopw [5] (fun i wr => ∃ k : Nat, k ≤ A.length ∧ i = .int .i64 k ∧ A.take k = B.take k ∧ ∃ n, wr = wo.drewN n) (fun i _ => A.length - (intOf i).toNat)
    case atStart => exact ⟨0, Nat.zero_le _, rfl, by simp, 0, rfl⟩
    case round =>
      obtain ⟨k, hk, rfl, hq, nr, rfl⟩ := hrel
      by_cases hlt : k < A.length
      · have hlt' : k < B.length := by rw [← Hne.out]; exact hlt
        have hltI : (k : Int) < A.length := by omega
        have hltI' : (k : Int) < B.length := by omega
        obtain ⟨b, off, rfl, hb, hc⟩ := hA.at k hlt
        obtain ⟨b', off', rfl, hb', hc'⟩ := hB.at k hlt'
        obtain ⟨hck, hck2⟩ := hc k hlt
        obtain ⟨hck', hck2'⟩ := hc' k hlt'
        have HS := Lib.hid (take_snocX ([], []) A B k hlt hlt' hq)
        have HN : Hid (¬ A.getD k ([], []) = B.getD k ([], []) → (A == B) = false) := Lib.hid (fun h => by simp; intro h'; subst h'; exact h rfl)
        clear hc hc' hA hB hq
        generalize A.getD k ([], []) = s at *
        generalize B.getD k ([], []) = s' at *
        obtain ⟨u, x⟩ := s
        obtain ⟨u', x'⟩ := s'
        simp only at hck hck2 hck' hck2'
        have hE := pair_equal u u' x x'
        have hG := pairGuard
        go_wp2
        go_quiet (fail)
        go_wp2
        · have hd : ¬ (u, x) = (u', x') := by rename_i h; simpa using h
          go_ret
          exact ⟨ret_bool (HN.out hd).symm, nr + nq, World.drewN_drewN _ _ _⟩
        · have hd : (u, x) = (u', x') := by rename_i h; simpa using h
          go_roundw
          case rel => exact ⟨k + 1, by omega, by go_num, HS.out hd, nr + nq, rfl⟩
          case measure => simp [intOf]; omega
      · go_wp2
        go_ret
        rw [List.take_of_length_le (by omega), List.take_of_length_le (by have := Hne.out; omega)] at hq
        exact ⟨by simp [hq], nr, rfl⟩
  · have hne' : ((A.length : Int) != (B.length : Int)) = true := by simp; omega
    have HN := Lib.hid hne
    clear hne
    go_enter Tryd.func26, Tryd.ntmps26
    go_wp2
    go_ret
    exact ⟨by have : ¬ A = B := fun h => HN.out (by rw [h]); simp [this], 0, rfl⟩
end Go.Proofs.YtkhlglkipeoalaaDoor
/- Two lists of numbers are compared. -/
namespace Go.Proofs.YtkhlglkipeoalaaDoor
open Go.RowKit Dsd

set_option maxRecDepth 100000 in
theorem Ints_any (p q : Option Addr) (cap n cap' n' : Nat) (A B : List Int) (w : World) (hA : Ints w p A) (hB : Ints w q B) (hn : A.length = n) (hn' : B.length = n') (hLA : A.length ≤ 1000000) (hLB : B.length ≤ 1000000) :
    Calls Tryd.prog 24 #[.slice p n cap, .slice q n' cap'] w fun e w' => e = .returned (.bool (A == B)) ∧ ∃ n, w' = w.drewN n := by
  subst hn hn'
  by_cases hne : A.length = B.length
  · have hneI : ((A.length : Int) != (B.length : Int)) = false := by simp [hne]
    have Hne := Lib.hid hne
    clear hne
    go_enter Tryd.func24, Tryd.ntmps24
    go_wp2
    obtain ⟨wo, rfl⟩ : ∃ wo : World, wo = w := ⟨_, rfl⟩
    go_loopw [5] (fun i wr => ∃ k : Nat, k ≤ A.length ∧ i = .int .i64 k ∧ A.take k = B.take k ∧ ∃ n, wr = wo.drewN n) (fun i _ => A.length - (intOf i).toNat)
    case atStart => exact ⟨0, Nat.zero_le _, rfl, by simp, 0, rfl⟩
    case round =>
      obtain ⟨k, hk, rfl, hq, nr, rfl⟩ := hrel
      by_cases hlt : k < A.length
      · have hlt' : k < B.length := by rw [← Hne.out]; exact hlt
        have hltI : (k : Int) < A.length := by omega
        have hltI' : (k : Int) < B.length := by omega
        obtain ⟨b, off, rfl, hb, hc⟩ := hA.at k hlt
        obtain ⟨b', off', rfl, hb', hc'⟩ := hB.at k hlt'
        have hck := hc k hlt
        have hck' := hc' k hlt'
        have HS := Lib.hid (take_snocX 0 A B k hlt hlt' hq)
        have HN : Hid (¬ A.getD k 0 = B.getD k 0 → (A == B) = false) := Lib.hid (fun h => by simp; intro h'; subst h'; exact h rfl)
        clear hc hc' hA hB hq
        generalize A.getD k 0 = s at *
        generalize B.getD k 0 = s' at *
        by_cases hss : s = s'
        · have hssI : (s != s') = false := by simp [hss]
          have HSS := Lib.hid hss
          clear hss
          go_wp2
          go_quiet (fail)
          go_wp2
          go_roundw
          case rel => exact ⟨k + 1, by omega, by go_num, HS.out HSS.out, nr + nq, by first | rfl | exact World.drewN_drewN _ _ _⟩
          case measure => simp [intOf]; omega
        · have hssI : (s != s') = true := by simpa using hss
          have HSS := Lib.hid hss
          clear hss
          go_wp2
          go_quiet (fail)
          go_wp2
          go_ret
          exact ⟨ret_bool (HN.out HSS.out).symm, nr + nq, by first | rfl | exact World.drewN_drewN _ _ _⟩
      · go_wp2
        go_ret
        rw [List.take_of_length_le (by omega), List.take_of_length_le (by have := Hne.out; omega)] at hq
        exact ⟨by simp [hq], nr, rfl⟩
  · have hne' : ((A.length : Int) != (B.length : Int)) = true := by simp; omega
    have HN := Lib.hid hne
    clear hne
    go_enter Tryd.func24, Tryd.ntmps24
    go_wp2
    go_ret
    exact ⟨by have : ¬ A = B := fun h => HN.out (by rw [h]); simp [this], 0, rfl⟩
end Go.Proofs.YtkhlglkipeoalaaDoor
/- Places's closure, slices.ContainsFunc with it, and small words of the law. -/
namespace Go.Proofs.YtkhlglkipeoalaaDoor
open Go.RowKit Dsd

/-- Is a length not allowed? -/
def badB (d : DS) (k : Int) : Bool := !(decide (1 ≤ k) && decide (k ≤ d.length))
set_option maxRecDepth 100000 in
theorem Places1_any (cb : Nat) (q : Value) (h : Hd) (d : DS) (k : Int) (w : World) (hb : Blk w cb (.cells #[q, .int .i64 h.applied, .int .i64 h.count, .int .i64 h.fin, .int .i64 h.root, .int .i64 h.height, .int .i64 h.splits, .int .i64 h.areas, .int .i64 d.id, .int .i64 d.org, .int .i64 d.format, .int .i64 d.length, .int .i64 d.block, .int .i64 d.keyAt, .int .i64 d.keyLength, .int .i64 d.interval, .int .i64 d.area, .int .i64 d.freeInterval, .int .i64 d.freeArea, .int .i64 d.base, .int .i64 d.altAt, .int .i64 d.altLength, .bool d.unique, .int .i64 d.cls, .string ⟨d.volume.toArray⟩, .string ⟨d.owner.toArray⟩, .int .i64 d.created, .int .i64 d.expires, .bool d.archived] 77)) :
    Calls Tryd.prog 46 #[.int .i64 k, .pointer (some ⟨cb, 0, none⟩)] w fun e w' => e = .returned (.bool (badB d k)) ∧ Ext w w' := by
  have Hal := Lib.hid (allowed_cl q h d k)
  have HB : Hid ((!(decide (1 ≤ k) && decide (k ≤ d.length))) = badB d k) := Lib.hid rfl
  generalize (decide (1 ≤ k) && decide (k ≤ d.length)) = b at *
  go_enter Tryd.func46, Tryd.ntmps46
  go_wp2_with (first | (refine wpList_row rfl 77 (.tmp 1) rfl _ rfl _ _ _ hb clDesc rfl clSize ?_) | (go_at_call 36; refine (Hal.out _).mono ?_; rintro e w1 ⟨rfl, he1⟩))
  go_ret
  exact ⟨ret_bool HB.out, he1⟩

/-- What IndexFunc answers. -/
def IdxOut (d : DS) (L : List Int) (w : World) (e : Ending) (w' : World) : Prop := ∃ r : Int, e = .returned (.int .i64 r) ∧ Ext w w' ∧ decide (0 ≤ r) = L.any (badB d)
set_option maxRecDepth 100000 in
theorem IndexFunc_any (p : Option Addr) (cap n : Nat) (L : List Int) (cb : Nat) (q : Value) (h : Hd) (d : DS) (w : World) (hs : Ints w p L) (hn : L.length = n) (hm : n ≤ 1000000) (hb : Blk w cb (.cells #[q, .int .i64 h.applied, .int .i64 h.count, .int .i64 h.fin, .int .i64 h.root, .int .i64 h.height, .int .i64 h.splits, .int .i64 h.areas, .int .i64 d.id, .int .i64 d.org, .int .i64 d.format, .int .i64 d.length, .int .i64 d.block, .int .i64 d.keyAt, .int .i64 d.keyLength, .int .i64 d.interval, .int .i64 d.area, .int .i64 d.freeInterval, .int .i64 d.freeArea, .int .i64 d.base, .int .i64 d.altAt, .int .i64 d.altLength, .bool d.unique, .int .i64 d.cls, .string ⟨d.volume.toArray⟩, .string ⟨d.owner.toArray⟩, .int .i64 d.created, .int .i64 d.expires, .bool d.archived] 77)) :
    Calls Tryd.prog 73 #[.slice p n cap, .func (.func 46) #[] #[.pointer (some ⟨cb, 0, none⟩)]] w (IdxOut d L w) := by
  subst hn
  have Hs := Lib.hid hs
  have Hb := Lib.hid hb
  clear hs hb
  go_enter Tryd.func73, Tryd.ntmps73
  go_wp2_with fail
  obtain ⟨wo, rfl⟩ : ∃ wo : World, wo = w := ⟨_, rfl⟩
  go_loopw [8] (fun i wr => ∃ k : Nat, k ≤ L.length ∧ i = .int .i64 k ∧ (L.take k).any (badB d) = false ∧ Ext wo wr) (fun i _ => L.length - (intOf i).toNat)
  case atStart => exact ⟨0, Nat.zero_le _, rfl, by simp, Ext.refl _⟩
  case round =>
    obtain ⟨k, hk, rfl, hq, hext⟩ := hrel
    have Hq := Lib.hid hq
    clear hq
    by_cases hlt : k < L.length
    · have hltI : (k : Int) < L.length := by omega
      obtain ⟨b, off, rfl, hb, hc⟩ := (Hs.out.ext hext).at k hlt
      have hck := hc k hlt
      have hT : Hid (∀ x, L.getD k 0 = x → (L.take (k + 1)).any (badB d) = badB d x) := Lib.hid (fun x hx => by
        rw [List.take_succ_eq_append_getElem hlt, List.any_append, Hq.out, ← hx]; simp [List.getD, hlt])
      have hA : Hid (∀ x, L.getD k 0 = x → badB d x = true → L.any (badB d) = true) := Lib.hid (fun x hx h => by
        rw [List.any_eq_true]
        exact ⟨L[k], List.getElem_mem hlt, by rw [← hx] at h; simpa [List.getD, hlt] using h⟩)
      clear hc
      generalize hx : L.getD k 0 = x at *
      have Hx := Lib.hid hx
      have Hpl := Lib.hid (Places1_any cb q h d x _ (hext.blk _ _ Hb.out))
      clear hx
      cases hbd : badB d x
      · have HBD := Lib.hid hbd
        clear hbd
        go_wp2_with (go_at_call 46; refine Hpl.out.mono ?_; rw [HBD.out]; rintro e w1 ⟨rfl, he1⟩)
        go_roundw
        case rel => exact ⟨k + 1, by omega, by go_num, by rw [hT.out _ rfl, HBD.out], hext.trans he1⟩
        case measure => simp [intOf]; omega
      · have HBD := Lib.hid hbd
        clear hbd
        go_wp2_with (go_at_call 46; refine Hpl.out.mono ?_; rw [HBD.out]; rintro e w1 ⟨rfl, he1⟩)
        go_ret
        exact ⟨k, rfl, hext.trans he1, by rw [hA.out _ rfl HBD.out]; simp⟩
    · have hltI : decide ((k : Int) < L.length) = false := by simp; omega
      go_wp2
      go_ret
      have := Hq.out
      rw [List.take_of_length_le (by omega)] at this
      exact ⟨-1, rfl, hext, by rw [this]; rfl⟩
set_option maxRecDepth 100000 in
theorem ContainsFunc_any (p : Option Addr) (cap n : Nat) (L : List Int) (cb : Nat) (q : Value) (h : Hd) (d : DS) (w : World) (hs : Ints w p L) (hn : L.length = n) (hm : n ≤ 1000000) (hb : Blk w cb (.cells #[q, .int .i64 h.applied, .int .i64 h.count, .int .i64 h.fin, .int .i64 h.root, .int .i64 h.height, .int .i64 h.splits, .int .i64 h.areas, .int .i64 d.id, .int .i64 d.org, .int .i64 d.format, .int .i64 d.length, .int .i64 d.block, .int .i64 d.keyAt, .int .i64 d.keyLength, .int .i64 d.interval, .int .i64 d.area, .int .i64 d.freeInterval, .int .i64 d.freeArea, .int .i64 d.base, .int .i64 d.altAt, .int .i64 d.altLength, .bool d.unique, .int .i64 d.cls, .string ⟨d.volume.toArray⟩, .string ⟨d.owner.toArray⟩, .int .i64 d.created, .int .i64 d.expires, .bool d.archived] 77)) :
    Calls Tryd.prog 45 #[.slice p n cap, .func (.func 46) #[] #[.pointer (some ⟨cb, 0, none⟩)]] w fun e w' => e = .returned (.bool (L.any (badB d))) ∧ Ext w w' := by
  have Hi := Lib.hid (IndexFunc_any p cap n L cb q h d w hs hn hm hb)
  go_enter Tryd.func45, Tryd.ntmps45
  go_wp2_with fail
  refine Hi.out.mono ?_
  rintro e w1 ⟨r, rfl, he1, hr⟩
  have Hr := Lib.hid hr
  clear hr
  go_wp2
  all_goals go_ret
  all_goals exact ⟨ret_bool (by first | (rw [← Hr.out]; done) | (rw [← Hr.out]; simp_all)), he1⟩
theorem Small_any (p : Option Addr) (cap n : Nat) (L : List (List UInt8)) (most : Nat) (w : World) (hs : Strs w p L) (hn : L.length = n) (hL : L.length ≤ maxLen) :
    Calls Tryd.prog 20 #[.slice p n cap, .int .i64 most] w fun e w' => e = .returned (.bool (shortB L most 600)) ∧ w = w' := by
  go_enter Tryd.func20, Tryd.ntmps20
  go_wp2_with (go_at_call 16; refine (Short_any p cap n L most 600 _ hs hn hL).mono ?_; rintro e w' ⟨rfl, rfl⟩)
  go_ret
  exact ⟨rfl, rfl⟩
theorem small_any (p : Option Addr) (cap n : Nat) (L : List (List UInt8)) (w : World) (hs : Strs w p L) (hn : L.length = n) (hL : L.length ≤ maxLen) :
    Calls Tryd.prog 11 #[.slice p n cap] w fun e w' => e = .returned (.bool (shortB L 40 300)) ∧ w = w' := by
  go_enter Tryd.func11, Tryd.ntmps11
  go_wp2_with (go_at_call 16; refine (Short_any p cap n L 40 300 _ hs hn hL).mono ?_; rintro e w' ⟨rfl, rfl⟩)
  go_ret
  exact ⟨rfl, rfl⟩
end Go.Proofs.YtkhlglkipeoalaaDoor
