/- The walks of the slots' small functions. -/
import Derived.Test.YtadeohkcaaoflaaDoorW16
import Derived.Laws.StructEq
namespace Go.Proofs.YtadeohkcaaoflaaDoor
open Go.RowKit Dsd

theorem IsLength_any (size length : Int) (w : World) :
    Calls Tryd.prog 52 #[.int .i64 size, .int .i64 length] w fun e w' => e = .returned (.bool (isSizeB size && decide (1 ≤ length) && decide (length ≤ 200) && decide (length ≤ size - 7))) ∧ w = w' := by
  by_cases h1 : isSizeB size = true
  · obtain ⟨n, rfl, hn⟩ := isSize_nat h1
    have i1 : IntKind.i64.wrap ((n : Int) - 7) = n - 7 := IntWalk.i64_in _ (by omega)
    go_enter Tryd.func52, Tryd.ntmps52
    go_wp2_with (go_at_call 34; refine (IsSize_any _ _).mono ?_; rintro e w' ⟨rfl, rfl⟩)
    all_goals go_ret
    all_goals exact ⟨ret_bool (by first | (simp [*]; done) | (simp [*]; omega) | (simp [*]; intros; omega)), rfl⟩
  · have h1' : isSizeB size = false := by simpa using h1
    clear h1
    go_enter Tryd.func52, Tryd.ntmps52
    go_wp2_with (go_at_call 34; refine (IsSize_any _ _).mono ?_; rintro e w' ⟨rfl, rfl⟩)
    all_goals go_ret
    all_goals exact ⟨ret_bool (by first | (simp [*]; done) | (simp [*]; omega) | (simp [*]; intros; omega)), rfl⟩

set_option maxRecDepth 100000 in
theorem SlotCount_ref (size length : Int) (w : World) :
    Calls Tryd.prog 29 #[.int .i64 size, .int .i64 length] w fun e w' => e = .returned (.int .i64 (slotsN size length)) ∧ w = w' := by
  cases hb : (isSizeB size && decide (1 ≤ length) && decide (length ≤ 200) && decide (length ≤ size - 7))
  · have HE : Hid (slotsN size length = 0) := Lib.hid (by
      unfold slotsN
      rw [if_pos]
      simp at hb
      by_cases h1 : isSizeB size = true
      · have := hb h1; omega
      · left; simpa using h1)
    go_enter Tryd.func29, Tryd.ntmps29
    go_wp2_with (go_at_call 52; refine (IsLength_any _ _ _).mono ?_; rintro e w' ⟨rfl, rfl⟩)
    all_goals (go_ret; exact ⟨ret_int HE.out.symm, rfl⟩)
  · have hb2 := hb
    simp at hb2
    obtain ⟨⟨⟨h1, h2⟩, h3⟩, h4⟩ := hb2
    obtain ⟨n, rfl, hn⟩ := isSize_nat h1
    have HE : Hid (slotsN n length = ((n : Int) - 4) / (length + 3)) := Lib.hid (by unfold slotsN; rw [if_neg (by simp [h1]; omega)])
    have hq : ((n : Int) - 4).tdiv (length + 3) = ((n : Int) - 4) / (length + 3) := Int.tdiv_eq_ediv_of_nonneg (by omega)
    have q1 : 0 ≤ ((n : Int) - 4) / (length + 3) := Int.ediv_nonneg (by omega) (by omega)
    have q2 : ((n : Int) - 4) / (length + 3) ≤ (n : Int) - 4 := Int.ediv_le_self _ (by omega)
    generalize ((n : Int) - 4) / (length + 3) = q at *
    have q3 : IntKind.i64.wrap q = q := IntWalk.i64_in _ (by omega)
    have l1 : IntKind.i64.wrap (length + 3) = length + 3 := IntWalk.i64_in _ (by omega)
    have l2 : ¬ length + 3 = 0 := by omega
    have i1 : IntKind.i64.wrap ((n : Int) - 4) = n - 4 := IntWalk.i64_in _ (by omega)
    have HB := Lib.hid hb
    clear hb
    go_enter Tryd.func29, Tryd.ntmps29
    go_wp2_with (go_at_call 52; refine (IsLength_any _ _ _).mono ?_; rw [HB.out]; rintro e w' ⟨rfl, rfl⟩)
    all_goals (go_ret; exact ⟨ret_int HE.out.symm, rfl⟩)

theorem slotFields : (Tryd.prog.fieldsOf 43).toList.map (fun f => (f.name, f.type, f.offset)) = [("Used", 4, 0), ("Record", 9, 1)] := by kernel_rfl
theorem slotHeld : Tryd.prog.stoodInHeld 43 = false := by kernel_rfl
theorem slotGuard : Tryd.prog.eqGuardType Tryd.prog.depth 43 = false := by kernel_rfl
theorem slotDesc : Tryd.prog.underlying 43 = some (.struct (Tryd.prog.fieldsOf 43)) := by kernel_rfl
/-- Slots are compared field by field. -/
theorem slot_equal (u u' : Bool) (x x' : List UInt8) (W : World) : (Op.equalIn 10000 43 (.agg #[.bool u, .string ⟨x.toArray⟩]) (.agg #[.bool u', .string ⟨x'.toArray⟩])).run Tryd.prog W = .ok ((u, x) == (u', x')) W := by
  rw [run_equalIn_agg W 9999 43 _ _ slotDesc slotHeld]
  have h := slotFields
  generalize (Tryd.prog.fieldsOf 43).toList = fs at *
  have hl : fs.length = 2 := by simpa using congrArg List.length h
  obtain ⟨f, g, rfl⟩ : ∃ f g, fs = [f, g] := by
    cases fs with
    | nil => simp at hl
    | cons f fs =>
      cases fs with
      | nil => simp at hl
      | cons g fs =>
        cases fs with
        | nil => exact ⟨f, g, rfl⟩
        | cons _ _ => simp at hl
  simp at h
  obtain ⟨⟨a1, a2, a3⟩, b1, b2, b3⟩ := h
  simp [Op.eqFields, a1, a2, a3, b1, b2, b3, go_sem]
  by_cases h1 : u = u'
  · by_cases h2 : x = x'
    · simp [h1, h2]
    · simp [h1, h2]
  · simp [h1]

/-- A slot: whether it is used, and its record. -/
abbrev Slt := Bool × List UInt8
/-- A slice of slots that is read. -/
def Slts (w : World) (p : Option Addr) (L : List Slt) : Prop :=
  L = [] ∨ ∃ b off, p = some ⟨b, off, none⟩ ∧ b < w.heap.size ∧ ∀ i, i < L.length → w.cell? ⟨b, off + i * 2, none⟩ = some (.bool (L.getD i (false, [])).1) ∧ w.cell? ⟨b, off + i * 2 + 1, none⟩ = some (.string ⟨(L.getD i (false, [])).2.toArray⟩)
theorem Slts.ext {w w' : World} {p : Option Addr} {L : List Slt} (h : Slts w p L) (e : Ext w w') : Slts w' p L := by
  rcases h with h | ⟨b, off, hp, hb, hc⟩
  · exact .inl h
  · exact .inr ⟨b, off, hp, Nat.lt_of_lt_of_le hb e.size, fun i hi => ⟨(e.cell b _ hb).trans (hc i hi).1, (e.cell b _ hb).trans (hc i hi).2⟩⟩
theorem Slts.at {w : World} {p : Option Addr} {L : List Slt} (h : Slts w p L) (k : Nat) (hk : k < L.length) :
    ∃ b off, p = some ⟨b, off, none⟩ ∧ b < w.heap.size ∧ ∀ i, i < L.length → w.cell? ⟨b, off + i * 2, none⟩ = some (.bool (L.getD i (false, [])).1) ∧ w.cell? ⟨b, off + i * 2 + 1, none⟩ = some (.string ⟨(L.getD i (false, [])).2.toArray⟩) := by
  rcases h with h | h
  · subst h; simp at hk
  · exact h

set_option maxRecDepth 100000 in
theorem SameSlots_any (p q : Option Addr) (cap n cap' n' : Nat) (A B : List Slt) (w : World) (hA : Slts w p A) (hB : Slts w q B) (hn : A.length = n) (hn' : B.length = n') (hLA : A.length ≤ 1000000) (hLB : B.length ≤ 1000000) :
    Calls Tryd.prog 27 #[.slice p n cap, .slice q n' cap'] w fun e w' => e = .returned (.bool (A == B)) ∧ ∃ n, w' = w.drewN n := by
  subst hn hn'
  by_cases hne : A.length = B.length
  · have hneI : ((A.length : Int) != (B.length : Int)) = false := by simp [hne]
    have Hne := Lib.hid hne
    clear hne
    go_enter Tryd.func27, Tryd.ntmps27
    go_wp2
    obtain ⟨wo, rfl⟩ : ∃ wo : World, wo = w := ⟨_, rfl⟩
    go_loopw [5] (fun i wr => ∃ k : Nat, k ≤ A.length ∧ i = .int .i64 k ∧ A.take k = B.take k ∧ ∃ n, wr = wo.drewN n) (fun i _ => A.length - (intOf i).toNat)
    case atStart => exact ⟨0, Nat.zero_le _, rfl, by simp, 0, rfl⟩
    case round =>
      obtain ⟨k, hk, rfl, hq, nr, rfl⟩ := hrel
      by_cases hlt : k < A.length
      · have hlt' : k < B.length := by rw [← Hne.out]; exact hlt
        have hltI : (k : Int) < A.length := by omega
        have hltI' : (k : Int) < B.length := by omega
        obtain ⟨b, off, rfl, hb, hc⟩ := hA.at k hlt
        obtain ⟨b', off', rfl, hb', hc'⟩ := hB.at k hlt'
        obtain ⟨hck, hck2⟩ := hc k hlt
        obtain ⟨hck', hck2'⟩ := hc' k hlt'
        have HS := Lib.hid (take_snoc (false, []) A B k hlt hlt' hq)
        have HN : Hid (¬ A.getD k (false, []) = B.getD k (false, []) → (A == B) = false) := Lib.hid (fun h => by simp; intro h'; subst h'; exact h rfl)
        clear hc hc' hA hB hq
        generalize A.getD k (false, []) = s at *
        generalize B.getD k (false, []) = s' at *
        obtain ⟨u, x⟩ := s
        obtain ⟨u', x'⟩ := s'
        simp only at hck hck2 hck' hck2'
        have hE := slot_equal u u' x x'
        have hG := slotGuard
        go_wp2
        go_quiet (fail)
        go_wp2
        · have hd : ¬ (u, x) = (u', x') := by rename_i h; simpa using h
          go_ret
          exact ⟨ret_bool (HN.out hd).symm, nr + nq, World.drewN_drewN _ _ _⟩
        · have hd : (u, x) = (u', x') := by rename_i h; simpa using h
          go_roundw
          case rel => exact ⟨k + 1, by omega, by go_num, HS.out hd, nr + nq, rfl⟩
          case measure => simp [intOf]; omega
      · go_wp2
        go_ret
        rw [List.take_of_length_le (by omega), List.take_of_length_le (by have := Hne.out; omega)] at hq
        exact ⟨by simp [hq], nr, rfl⟩
  · have hne' : ((A.length : Int) != (B.length : Int)) = true := by simp; omega
    have HN := Lib.hid hne
    clear hne
    go_enter Tryd.func27, Tryd.ntmps27
    go_wp2
    go_ret
    exact ⟨by have : ¬ A = B := fun h => HN.out (by rw [h]); simp [this], 0, rfl⟩
end Go.Proofs.YtadeohkcaaoflaaDoor
