/- The walk of chapter 16's Valid (program). -/
import Derived.Test.YtmnpappbacndlaaGreatDoorX1
set_option linter.unusedSimpArgs false
set_option linter.unusedVariables false
namespace Go.Proofs.YtmnpappbacndlaaGreatDoor
open Go.RowKit Dsd

/-- A slice of numbers that is read. -/
def Ints (w : World) (p : Option Addr) (L : List Int) : Prop := Cells w p (L.map (Value.int .i64))
theorem Ints.ext {w w' : World} {p : Option Addr} {L : List Int} (h : Ints w p L) (e : Ext w w') : Ints w' p L := Cells.ext h e
theorem Ints.at {w : World} {p : Option Addr} {L : List Int} (h : Ints w p L) (k : Nat) (hk : k < L.length) :
    ∃ b off, p = some ⟨b, off, none⟩ ∧ b < w.heap.size ∧ ∀ i, i < L.length → w.cell? ⟨b, off + i, none⟩ = some (.int .i64 (L.getD i 0)) := by
  obtain ⟨b, off, h1, h2, h3⟩ := Cells.at h k (by simpa using hk)
  exact ⟨b, off, h1, h2, fun i hi => by rw [h3 i (by simpa using hi), getD_ints L i hi]⟩
theorem ints_new (w : World) (L : List Int) (t : TypeId) (cs : Array Value) (h : cs = (L.map (Value.int .i64)).toArray) : Ints (w.alloc (.cells cs t)) (some ⟨w.heap.size, 0, none⟩) L := by
  subst h
  refine .inr ⟨w.heap.size, 0, rfl, by simp, fun i hi => ?_⟩
  have hb : Blk _ _ _ := Blk.new w (.cells (L.map (Value.int .i64)).toArray t)
  simp only [List.length_map] at hi
  unfold Blk at hb
  unfold World.cell?
  simp only [hb]
  simp [hi, List.getD]

theorem ints_at (w : World) (b : Nat) (L : List Int) (t : TypeId) (cs : Array Value) (h : cs = (L.map (Value.int .i64)).toArray) (hb : b = w.heap.size) : Ints (w.alloc (.cells cs t)) (some ⟨b, 0, none⟩) L := by
  subst hb; exact ints_new w L t cs h

set_option maxRecDepth 100000 in
theorem zeros_key (p : Option Addr) (cap n : Nat) (L : List Int) (w : World) (hs : Ints w p L) (hn : L.length = n) (hm : n ≤ 1000000) :
    Calls Tryz.prog 30 #[.slice p n cap] w fun e w' => e = .returned (.bool (L.all (· == 0))) ∧ w = w' := by
  subst hn
  go_enter Tryz.func30, Tryz.ntmps30
  go_wp2
  go_loop [7] (fun i => ∃ k : Nat, k ≤ L.length ∧ i = .int .i64 k ∧ (L.take k).all (· == 0) = true) (fun i => L.length - (intOf i).toNat)
  case atStart => exact ⟨0, Nat.zero_le _, rfl, by simp⟩
  case round =>
    obtain ⟨k, hk, rfl, hq⟩ := hrel
    have Hq := Lib.hid hq
    clear hq
    by_cases hlt : k < L.length
    · have hltI : (k : Int) < L.length := by omega
      obtain ⟨b, off, rfl, hb, hc⟩ := hs.at k hlt
      have hck := hc k hlt
      have e1 : L.getD k 0 = L[k] := by simp [List.getD, hlt]
      have HL : Hid (∀ x, L.getD k 0 = x → L.all (· == 0) = true → x = 0) := Lib.hid (fun x hx h => by
        rw [List.all_eq_true] at h
        have := h L[k] (List.getElem_mem hlt)
        rw [← e1, hx] at this; simpa using this)
      have HT : Hid (∀ x, L.getD k 0 = x → x = 0 → (L.take (k + 1)).all (· == 0) = true) := Lib.hid (fun x hx h => by
        rw [List.take_succ_eq_append_getElem hlt, List.all_append, Hq.out, ← e1, hx, h]; rfl)
      clear hc e1
      generalize hx : L.getD k 0 = x at *
      have Hx := Lib.hid hx
      clear hx
      by_cases h0 : x = 0
      · subst h0
        go_wp2
        go_round
        case rel => exact ⟨k + 1, by omega, by go_num, HT.out _ rfl rfl⟩
        case measure => simp [intOf]; omega
      · have h0I : (x != 0) = true := by simpa using h0
        go_wp2
        go_ret
        refine ⟨ret_bool ?_, rfl⟩
        cases hz : L.all (· == 0)
        · rfl
        · exact absurd (HL.out _ rfl hz) h0
    · have hltI : decide ((k : Int) < L.length) = false := by simp; omega
      go_wp2
      go_ret
      have := Hq.out
      rw [List.take_of_length_le (by omega)] at this
      exact ⟨ret_bool this.symm, rfl⟩
end Go.Proofs.YtmnpappbacndlaaGreatDoor
/- The walk of chapter 16's Valid (program): intervals of 128 bytes. -/
namespace Go.Proofs.YtmnpappbacndlaaGreatDoor
open Go.RowKit Dsd

set_option maxRecDepth 100000 in
set_option maxHeartbeats 1000000 in
theorem Valid_key_o128 (d : DS) (w : World) (hs : d.interval = 128) (ho : ¬ (1 ≤ d.org ∧ d.org ≤ 3)) (hO : (decide (1 ≤ d.org) && decide (d.org ≤ 3)) = false) : Calls Tryz.prog 17 #[.agg #[.int .i64 d.id, .int .i64 d.org, .int .i64 d.format, .int .i64 d.length, .int .i64 d.block, .int .i64 d.keyAt, .int .i64 d.keyLength, .int .i64 d.interval, .int .i64 d.area, .int .i64 d.freeInterval, .int .i64 d.freeArea, .int .i64 d.base, .int .i64 d.altAt, .int .i64 d.altLength, .bool d.unique, .int .i64 d.cls, .string ⟨d.volume.toArray⟩, .string ⟨d.owner.toArray⟩, .int .i64 d.created, .int .i64 d.expires, .bool d.archived]] w fun e w' => e = .returned (.bool (validB d)) ∧ Ext w w' := by
  have i0 : ∀ w, (Instr.index 73 (.agg #[.int .i64 128, .int .i64 256, .int .i64 512]) (.int .i64 0)).run Tryz.prog w = .ok (.int .i64 128) w := fun _ => by kernel_rfl
  have i1 : ∀ w, (Instr.index 73 (.agg #[.int .i64 128, .int .i64 256, .int .i64 512]) (.int .i64 1)).run Tryz.prog w = .ok (.int .i64 256) w := fun _ => by kernel_rfl
  have i2 : ∀ w, (Instr.index 73 (.agg #[.int .i64 128, .int .i64 256, .int .i64 512]) (.int .i64 2)).run Tryz.prog w = .ok (.int .i64 512) w := fun _ => by kernel_rfl
  simp only [hs]
  go_enter Tryz.func17, Tryz.ntmps17
  go_wp2
  go_loop [4, 9] (fun kn i => ∃ k : Nat, k ≤ 3 ∧ i = .int .i64 k ∧ kn = .bool (decide (0 < k))) (fun _ i => 3 - (intOf i).toNat)
  case atStart => exact ⟨0, Nat.zero_le _, rfl, rfl⟩
  case round =>
    obtain ⟨k, hk, rfl, rfl⟩ := hrel
    by_cases k0 : k = 0
    · subst k0
      go_wp2
      go_round
      case rel => exact ⟨1, by omega, rfl, rfl⟩
      case measure => simp [intOf]
    · by_cases k1 : k = 1
      · subst k1
        go_wp2
        go_round
        case rel => exact ⟨2, by omega, rfl, rfl⟩
        case measure => simp [intOf]
      · by_cases k2 : k = 2
        · subst k2
          go_wp2
          go_round
          case rel => exact ⟨3, by omega, rfl, rfl⟩
          case measure => simp [intOf]
        · obtain rfl : k = 3 := by omega
          clear i0 i1 i2 k0 k1 k2
          go_wp2_with (first | (go_at_call 29; refine (within_any _ _ _ _).mono ?_; rintro e w' ⟨rfl, rfl⟩))
          all_goals go_ret
          all_goals exact ⟨ret_bool (valid_no (by unfold ValidP; omega)), (by repeat (first | exact Ext.refl _ | exact Ext.alloc _ _ | refine Ext.trans ?_ (Ext.alloc _ _)))⟩

set_option maxRecDepth 100000 in
set_option maxHeartbeats 1000000 in
theorem Valid_key_l128 (d : DS) (w : World) (hs : d.interval = 128) (ho : 1 ≤ d.org) (ho2 : d.org ≤ 3) (hl : ¬ (1 ≤ d.length ∧ d.length ≤ 121)) (hL : (decide (1 ≤ d.length) && decide (d.length ≤ 121)) = false) : Calls Tryz.prog 17 #[.agg #[.int .i64 d.id, .int .i64 d.org, .int .i64 d.format, .int .i64 d.length, .int .i64 d.block, .int .i64 d.keyAt, .int .i64 d.keyLength, .int .i64 d.interval, .int .i64 d.area, .int .i64 d.freeInterval, .int .i64 d.freeArea, .int .i64 d.base, .int .i64 d.altAt, .int .i64 d.altLength, .bool d.unique, .int .i64 d.cls, .string ⟨d.volume.toArray⟩, .string ⟨d.owner.toArray⟩, .int .i64 d.created, .int .i64 d.expires, .bool d.archived]] w fun e w' => e = .returned (.bool (validB d)) ∧ Ext w w' := by
  have i0 : ∀ w, (Instr.index 73 (.agg #[.int .i64 128, .int .i64 256, .int .i64 512]) (.int .i64 0)).run Tryz.prog w = .ok (.int .i64 128) w := fun _ => by kernel_rfl
  have i1 : ∀ w, (Instr.index 73 (.agg #[.int .i64 128, .int .i64 256, .int .i64 512]) (.int .i64 1)).run Tryz.prog w = .ok (.int .i64 256) w := fun _ => by kernel_rfl
  have i2 : ∀ w, (Instr.index 73 (.agg #[.int .i64 128, .int .i64 256, .int .i64 512]) (.int .i64 2)).run Tryz.prog w = .ok (.int .i64 512) w := fun _ => by kernel_rfl
  simp only [hs]
  go_enter Tryz.func17, Tryz.ntmps17
  go_wp2
  go_loop [4, 9] (fun kn i => ∃ k : Nat, k ≤ 3 ∧ i = .int .i64 k ∧ kn = .bool (decide (0 < k))) (fun _ i => 3 - (intOf i).toNat)
  case atStart => exact ⟨0, Nat.zero_le _, rfl, rfl⟩
  case round =>
    obtain ⟨k, hk, rfl, rfl⟩ := hrel
    by_cases k0 : k = 0
    · subst k0
      go_wp2
      go_round
      case rel => exact ⟨1, by omega, rfl, rfl⟩
      case measure => simp [intOf]
    · by_cases k1 : k = 1
      · subst k1
        go_wp2
        go_round
        case rel => exact ⟨2, by omega, rfl, rfl⟩
        case measure => simp [intOf]
      · by_cases k2 : k = 2
        · subst k2
          go_wp2
          go_round
          case rel => exact ⟨3, by omega, rfl, rfl⟩
          case measure => simp [intOf]
        · obtain rfl : k = 3 := by omega
          clear i0 i1 i2 k0 k1 k2
          go_wp2_with (first | (go_at_call 29; refine (within_any _ _ _ _).mono ?_; rintro e w' ⟨rfl, rfl⟩))
          all_goals go_ret
          all_goals exact ⟨ret_bool (valid_no (by unfold ValidP; omega)), (by repeat (first | exact Ext.refl _ | exact Ext.alloc _ _ | refine Ext.trans ?_ (Ext.alloc _ _)))⟩

set_option maxRecDepth 100000 in
set_option maxHeartbeats 1000000 in
theorem Valid_key_z128 (d : DS) (w : World) (hs : d.interval = 128) (ho : 1 ≤ d.org) (ho2 : d.org ≤ 3) (hl : 1 ≤ d.length) (hl2 : d.length ≤ 121) (hz : ¬ (d.format = 0 ∧ d.block = 0)) : Calls Tryz.prog 17 #[.agg #[.int .i64 d.id, .int .i64 d.org, .int .i64 d.format, .int .i64 d.length, .int .i64 d.block, .int .i64 d.keyAt, .int .i64 d.keyLength, .int .i64 d.interval, .int .i64 d.area, .int .i64 d.freeInterval, .int .i64 d.freeArea, .int .i64 d.base, .int .i64 d.altAt, .int .i64 d.altLength, .bool d.unique, .int .i64 d.cls, .string ⟨d.volume.toArray⟩, .string ⟨d.owner.toArray⟩, .int .i64 d.created, .int .i64 d.expires, .bool d.archived]] w fun e w' => e = .returned (.bool (validB d)) ∧ Ext w w' := by
  have HN : Hid (false = validB d) := Lib.hid (valid_no (by unfold ValidP; omega))
  have HZ : Hid ([d.format, d.block].all (· == 0) = false) := Lib.hid (by simp; omega)
  clear hz
  have i0 : ∀ w, (Instr.index 73 (.agg #[.int .i64 128, .int .i64 256, .int .i64 512]) (.int .i64 0)).run Tryz.prog w = .ok (.int .i64 128) w := fun _ => by kernel_rfl
  have i1 : ∀ w, (Instr.index 73 (.agg #[.int .i64 128, .int .i64 256, .int .i64 512]) (.int .i64 1)).run Tryz.prog w = .ok (.int .i64 256) w := fun _ => by kernel_rfl
  have i2 : ∀ w, (Instr.index 73 (.agg #[.int .i64 128, .int .i64 256, .int .i64 512]) (.int .i64 2)).run Tryz.prog w = .ok (.int .i64 512) w := fun _ => by kernel_rfl
  simp only [hs]
  go_enter Tryz.func17, Tryz.ntmps17
  go_wp2
  go_loop [4, 9] (fun kn i => ∃ k : Nat, k ≤ 3 ∧ i = .int .i64 k ∧ kn = .bool (decide (0 < k))) (fun _ i => 3 - (intOf i).toNat)
  case atStart => exact ⟨0, Nat.zero_le _, rfl, rfl⟩
  case round =>
    obtain ⟨k, hk, rfl, rfl⟩ := hrel
    by_cases k0 : k = 0
    · subst k0
      go_wp2
      go_round
      case rel => exact ⟨1, by omega, rfl, rfl⟩
      case measure => simp [intOf]
    · by_cases k1 : k = 1
      · subst k1
        go_wp2
        go_round
        case rel => exact ⟨2, by omega, rfl, rfl⟩
        case measure => simp [intOf]
      · by_cases k2 : k = 2
        · subst k2
          go_wp2
          go_round
          case rel => exact ⟨3, by omega, rfl, rfl⟩
          case measure => simp [intOf]
        · obtain rfl : k = 3 := by omega
          clear i0 i1 i2 k0 k1 k2
          go_wp2_with (first | (go_at_call 29; refine (within_any _ _ _ _).mono ?_; rintro e w' ⟨rfl, rfl⟩) | (go_at_call 30; go_must (refine (zeros_key _ _ 2 [d.format, d.block] _ (ints_at _ _ [d.format, d.block] 3 _ rfl (by simp)) rfl (by omega)).mono ?_; rw [HZ.out]; rintro e w' ⟨rfl, rfl⟩)))
          all_goals go_ret
          all_goals exact ⟨ret_bool HN.out, (by repeat (first | exact Ext.refl _ | exact Ext.alloc _ _ | refine Ext.trans ?_ (Ext.alloc _ _)))⟩

set_option maxRecDepth 100000 in
set_option maxHeartbeats 1000000 in
theorem Valid_key_e128 (d : DS) (w : World) (hs : d.interval = 128) (ho : 1 ≤ d.org) (ho2 : d.org ≤ 3) (h3 : (d.org != 3) = true) (hl : 1 ≤ d.length) (hl2 : d.length ≤ 121) (hf : d.format = 0) (hb : d.block = 0) : Calls Tryz.prog 17 #[.agg #[.int .i64 d.id, .int .i64 d.org, .int .i64 d.format, .int .i64 d.length, .int .i64 d.block, .int .i64 d.keyAt, .int .i64 d.keyLength, .int .i64 d.interval, .int .i64 d.area, .int .i64 d.freeInterval, .int .i64 d.freeArea, .int .i64 d.base, .int .i64 d.altAt, .int .i64 d.altLength, .bool d.unique, .int .i64 d.cls, .string ⟨d.volume.toArray⟩, .string ⟨d.owner.toArray⟩, .int .i64 d.created, .int .i64 d.expires, .bool d.archived]] w fun e w' => e = .returned (.bool (validB d)) ∧ Ext w w' := by
  have h3' : d.org ≠ 3 := by simpa using h3
  have HZ : Hid ([d.format, d.block].all (· == 0) = true) := Lib.hid (by simp [hf, hb])
  have HV : Hid ([d.keyAt, d.keyLength, d.area, d.freeInterval, d.freeArea].all (· == 0) = validB d) := Lib.hid (by
    cases hv : [d.keyAt, d.keyLength, d.area, d.freeInterval, d.freeArea].all (· == 0)
    · refine valid_no (fun k => ?_)
      obtain ⟨a, b, c, e, f⟩ := k.2.2.2.2.2.2.2.2.2 h3'
      rw [a, b, c, e, f] at hv
      simp at hv
    · simp at hv
      exact valid_yes (by unfold ValidP; omega))
  clear hf hb h3'
  have i0 : ∀ w, (Instr.index 73 (.agg #[.int .i64 128, .int .i64 256, .int .i64 512]) (.int .i64 0)).run Tryz.prog w = .ok (.int .i64 128) w := fun _ => by kernel_rfl
  have i1 : ∀ w, (Instr.index 73 (.agg #[.int .i64 128, .int .i64 256, .int .i64 512]) (.int .i64 1)).run Tryz.prog w = .ok (.int .i64 256) w := fun _ => by kernel_rfl
  have i2 : ∀ w, (Instr.index 73 (.agg #[.int .i64 128, .int .i64 256, .int .i64 512]) (.int .i64 2)).run Tryz.prog w = .ok (.int .i64 512) w := fun _ => by kernel_rfl
  simp only [hs]
  go_enter Tryz.func17, Tryz.ntmps17
  go_wp2
  go_loop [4, 9] (fun kn i => ∃ k : Nat, k ≤ 3 ∧ i = .int .i64 k ∧ kn = .bool (decide (0 < k))) (fun _ i => 3 - (intOf i).toNat)
  case atStart => exact ⟨0, Nat.zero_le _, rfl, rfl⟩
  case round =>
    obtain ⟨k, hk, rfl, rfl⟩ := hrel
    by_cases k0 : k = 0
    · subst k0
      go_wp2
      go_round
      case rel => exact ⟨1, by omega, rfl, rfl⟩
      case measure => simp [intOf]
    · by_cases k1 : k = 1
      · subst k1
        go_wp2
        go_round
        case rel => exact ⟨2, by omega, rfl, rfl⟩
        case measure => simp [intOf]
      · by_cases k2 : k = 2
        · subst k2
          go_wp2
          go_round
          case rel => exact ⟨3, by omega, rfl, rfl⟩
          case measure => simp [intOf]
        · obtain rfl : k = 3 := by omega
          clear i0 i1 i2 k0 k1 k2
          go_wp2_with (first | (go_at_call 30; have tk := HZ; (refine (zeros_key _ _ 2 [d.format, d.block] _ (ints_at _ _ [d.format, d.block] 3 _ rfl (by simp)) rfl (by omega)).mono ?_; rw [HZ.out]; rintro e w' ⟨rfl, rfl⟩; clear HZ tk)) | (go_at_call 30; go_must (refine (zeros_key _ _ 5 [d.keyAt, d.keyLength, d.area, d.freeInterval, d.freeArea] _ (ints_at _ _ [d.keyAt, d.keyLength, d.area, d.freeInterval, d.freeArea] 3 _ rfl (by simp)) rfl (by omega)).mono ?_; rw [HV.out]; rintro e w' ⟨rfl, rfl⟩)) | (go_at_call 29; refine (within_any _ _ _ _).mono ?_; rintro e w' ⟨rfl, rfl⟩))
          all_goals go_ret
          all_goals exact ⟨ret_bool rfl, (by repeat (first | exact Ext.refl _ | exact Ext.alloc _ _ | refine Ext.trans ?_ (Ext.alloc _ _)))⟩

set_option maxRecDepth 100000 in
set_option maxHeartbeats 1000000 in
theorem Valid_key_k128 (d : DS) (w : World) (hs : d.interval = 128) (h3 : d.org = 3) (hl : 1 ≤ d.length) (hl2 : d.length ≤ 121) (hf : d.format = 0) (hb : d.block = 0) : Calls Tryz.prog 17 #[.agg #[.int .i64 d.id, .int .i64 d.org, .int .i64 d.format, .int .i64 d.length, .int .i64 d.block, .int .i64 d.keyAt, .int .i64 d.keyLength, .int .i64 d.interval, .int .i64 d.area, .int .i64 d.freeInterval, .int .i64 d.freeArea, .int .i64 d.base, .int .i64 d.altAt, .int .i64 d.altLength, .bool d.unique, .int .i64 d.cls, .string ⟨d.volume.toArray⟩, .string ⟨d.owner.toArray⟩, .int .i64 d.created, .int .i64 d.expires, .bool d.archived]] w fun e w' => e = .returned (.bool (validB d)) ∧ Ext w w' := by
  have HZ : Hid ([d.format, d.block].all (· == 0) = true) := Lib.hid (by simp [hf, hb])
  have HF := Lib.hid hf
  have HB := Lib.hid hb
  clear hf hb
  have i0 : ∀ w, (Instr.index 73 (.agg #[.int .i64 128, .int .i64 256, .int .i64 512]) (.int .i64 0)).run Tryz.prog w = .ok (.int .i64 128) w := fun _ => by kernel_rfl
  have i1 : ∀ w, (Instr.index 73 (.agg #[.int .i64 128, .int .i64 256, .int .i64 512]) (.int .i64 1)).run Tryz.prog w = .ok (.int .i64 256) w := fun _ => by kernel_rfl
  have i2 : ∀ w, (Instr.index 73 (.agg #[.int .i64 128, .int .i64 256, .int .i64 512]) (.int .i64 2)).run Tryz.prog w = .ok (.int .i64 512) w := fun _ => by kernel_rfl
  simp only [hs, h3]
  go_enter Tryz.func17, Tryz.ntmps17
  go_wp2
  go_loop [4, 9] (fun kn i => ∃ k : Nat, k ≤ 3 ∧ i = .int .i64 k ∧ kn = .bool (decide (0 < k))) (fun _ i => 3 - (intOf i).toNat)
  case atStart => exact ⟨0, Nat.zero_le _, rfl, rfl⟩
  case round =>
    obtain ⟨k, hk, rfl, rfl⟩ := hrel
    by_cases k0 : k = 0
    · subst k0
      go_wp2
      go_round
      case rel => exact ⟨1, by omega, rfl, rfl⟩
      case measure => simp [intOf]
    · by_cases k1 : k = 1
      · subst k1
        go_wp2
        go_round
        case rel => exact ⟨2, by omega, rfl, rfl⟩
        case measure => simp [intOf]
      · by_cases k2 : k = 2
        · subst k2
          go_wp2
          go_round
          case rel => exact ⟨3, by omega, rfl, rfl⟩
          case measure => simp [intOf]
        · obtain rfl : k = 3 := by omega
          clear i0 i1 i2 k0 k1 k2
          go_wp2_with (first | (go_at_call 30; go_must (refine (zeros_key _ _ 2 [d.format, d.block] _ (ints_at _ _ [d.format, d.block] 3 _ rfl (by simp)) rfl (by omega)).mono ?_; rw [HZ.out]; rintro e w' ⟨rfl, rfl⟩)) | (go_at_call 29; refine (within_any _ _ _ _).mono ?_; rintro e w' ⟨rfl, rfl⟩))
          all_goals go_ret
          all_goals first | exact ⟨ret_bool (valid_no (by unfold ValidP; have := HF.out; have := HB.out; omega)), (by repeat (first | exact Ext.refl _ | exact Ext.alloc _ _ | refine Ext.trans ?_ (Ext.alloc _ _)))⟩ | exact ⟨ret_bool (valid_last (by unfold ValidP; simp only [decide_eq_true_eq]; omega) (by unfold ValidP; simp only [decide_eq_true_eq]; have := HF.out; have := HB.out; omega)), (by repeat (first | exact Ext.refl _ | exact Ext.alloc _ _ | refine Ext.trans ?_ (Ext.alloc _ _)))⟩

theorem Valid_key_128 (d : DS) (w : World) (hs : d.interval = 128) : Calls Tryz.prog 17 #[.agg #[.int .i64 d.id, .int .i64 d.org, .int .i64 d.format, .int .i64 d.length, .int .i64 d.block, .int .i64 d.keyAt, .int .i64 d.keyLength, .int .i64 d.interval, .int .i64 d.area, .int .i64 d.freeInterval, .int .i64 d.freeArea, .int .i64 d.base, .int .i64 d.altAt, .int .i64 d.altLength, .bool d.unique, .int .i64 d.cls, .string ⟨d.volume.toArray⟩, .string ⟨d.owner.toArray⟩, .int .i64 d.created, .int .i64 d.expires, .bool d.archived]] w fun e w' => e = .returned (.bool (validB d)) ∧ Ext w w' := by
  by_cases ho : 1 ≤ d.org ∧ d.org ≤ 3
  · by_cases hl : 1 ≤ d.length ∧ d.length ≤ 121
    · by_cases hz : d.format = 0 ∧ d.block = 0
      · by_cases h3 : d.org = 3
        · exact Valid_key_k128 d w hs h3 hl.1 hl.2 hz.1 hz.2
        · exact Valid_key_e128 d w hs ho.1 ho.2 (by simpa using h3) hl.1 hl.2 hz.1 hz.2
      · exact Valid_key_z128 d w hs ho.1 ho.2 hl.1 hl.2 hz
    · exact Valid_key_l128 d w hs ho.1 ho.2 hl (by simp; omega)
  · exact Valid_key_o128 d w hs ho (by simp; omega)
end Go.Proofs.YtmnpappbacndlaaGreatDoor
/- The walk of chapter 16's Valid (program): intervals of 256 bytes. -/
namespace Go.Proofs.YtmnpappbacndlaaGreatDoor
open Go.RowKit Dsd

set_option maxRecDepth 100000 in
set_option maxHeartbeats 1000000 in
theorem Valid_key_o256 (d : DS) (w : World) (hs : d.interval = 256) (ho : ¬ (1 ≤ d.org ∧ d.org ≤ 3)) (hO : (decide (1 ≤ d.org) && decide (d.org ≤ 3)) = false) : Calls Tryz.prog 17 #[.agg #[.int .i64 d.id, .int .i64 d.org, .int .i64 d.format, .int .i64 d.length, .int .i64 d.block, .int .i64 d.keyAt, .int .i64 d.keyLength, .int .i64 d.interval, .int .i64 d.area, .int .i64 d.freeInterval, .int .i64 d.freeArea, .int .i64 d.base, .int .i64 d.altAt, .int .i64 d.altLength, .bool d.unique, .int .i64 d.cls, .string ⟨d.volume.toArray⟩, .string ⟨d.owner.toArray⟩, .int .i64 d.created, .int .i64 d.expires, .bool d.archived]] w fun e w' => e = .returned (.bool (validB d)) ∧ Ext w w' := by
  have i0 : ∀ w, (Instr.index 73 (.agg #[.int .i64 128, .int .i64 256, .int .i64 512]) (.int .i64 0)).run Tryz.prog w = .ok (.int .i64 128) w := fun _ => by kernel_rfl
  have i1 : ∀ w, (Instr.index 73 (.agg #[.int .i64 128, .int .i64 256, .int .i64 512]) (.int .i64 1)).run Tryz.prog w = .ok (.int .i64 256) w := fun _ => by kernel_rfl
  have i2 : ∀ w, (Instr.index 73 (.agg #[.int .i64 128, .int .i64 256, .int .i64 512]) (.int .i64 2)).run Tryz.prog w = .ok (.int .i64 512) w := fun _ => by kernel_rfl
  simp only [hs]
  go_enter Tryz.func17, Tryz.ntmps17
  go_wp2
  go_loop [4, 9] (fun kn i => ∃ k : Nat, k ≤ 3 ∧ i = .int .i64 k ∧ kn = .bool (decide (1 < k))) (fun _ i => 3 - (intOf i).toNat)
  case atStart => exact ⟨0, Nat.zero_le _, rfl, rfl⟩
  case round =>
    obtain ⟨k, hk, rfl, rfl⟩ := hrel
    by_cases k0 : k = 0
    · subst k0
      go_wp2
      go_round
      case rel => exact ⟨1, by omega, rfl, rfl⟩
      case measure => simp [intOf]
    · by_cases k1 : k = 1
      · subst k1
        go_wp2
        go_round
        case rel => exact ⟨2, by omega, rfl, rfl⟩
        case measure => simp [intOf]
      · by_cases k2 : k = 2
        · subst k2
          go_wp2
          go_round
          case rel => exact ⟨3, by omega, rfl, rfl⟩
          case measure => simp [intOf]
        · obtain rfl : k = 3 := by omega
          clear i0 i1 i2 k0 k1 k2
          go_wp2_with (first | (go_at_call 29; refine (within_any _ _ _ _).mono ?_; rintro e w' ⟨rfl, rfl⟩))
          all_goals go_ret
          all_goals exact ⟨ret_bool (valid_no (by unfold ValidP; omega)), (by repeat (first | exact Ext.refl _ | exact Ext.alloc _ _ | refine Ext.trans ?_ (Ext.alloc _ _)))⟩

set_option maxRecDepth 100000 in
set_option maxHeartbeats 1000000 in
theorem Valid_key_l256 (d : DS) (w : World) (hs : d.interval = 256) (ho : 1 ≤ d.org) (ho2 : d.org ≤ 3) (hl : ¬ (1 ≤ d.length ∧ d.length ≤ 200)) (hL : (decide (1 ≤ d.length) && decide (d.length ≤ 200)) = false) : Calls Tryz.prog 17 #[.agg #[.int .i64 d.id, .int .i64 d.org, .int .i64 d.format, .int .i64 d.length, .int .i64 d.block, .int .i64 d.keyAt, .int .i64 d.keyLength, .int .i64 d.interval, .int .i64 d.area, .int .i64 d.freeInterval, .int .i64 d.freeArea, .int .i64 d.base, .int .i64 d.altAt, .int .i64 d.altLength, .bool d.unique, .int .i64 d.cls, .string ⟨d.volume.toArray⟩, .string ⟨d.owner.toArray⟩, .int .i64 d.created, .int .i64 d.expires, .bool d.archived]] w fun e w' => e = .returned (.bool (validB d)) ∧ Ext w w' := by
  have i0 : ∀ w, (Instr.index 73 (.agg #[.int .i64 128, .int .i64 256, .int .i64 512]) (.int .i64 0)).run Tryz.prog w = .ok (.int .i64 128) w := fun _ => by kernel_rfl
  have i1 : ∀ w, (Instr.index 73 (.agg #[.int .i64 128, .int .i64 256, .int .i64 512]) (.int .i64 1)).run Tryz.prog w = .ok (.int .i64 256) w := fun _ => by kernel_rfl
  have i2 : ∀ w, (Instr.index 73 (.agg #[.int .i64 128, .int .i64 256, .int .i64 512]) (.int .i64 2)).run Tryz.prog w = .ok (.int .i64 512) w := fun _ => by kernel_rfl
  simp only [hs]
  go_enter Tryz.func17, Tryz.ntmps17
  go_wp2
  go_loop [4, 9] (fun kn i => ∃ k : Nat, k ≤ 3 ∧ i = .int .i64 k ∧ kn = .bool (decide (1 < k))) (fun _ i => 3 - (intOf i).toNat)
  case atStart => exact ⟨0, Nat.zero_le _, rfl, rfl⟩
  case round =>
    obtain ⟨k, hk, rfl, rfl⟩ := hrel
    by_cases k0 : k = 0
    · subst k0
      go_wp2
      go_round
      case rel => exact ⟨1, by omega, rfl, rfl⟩
      case measure => simp [intOf]
    · by_cases k1 : k = 1
      · subst k1
        go_wp2
        go_round
        case rel => exact ⟨2, by omega, rfl, rfl⟩
        case measure => simp [intOf]
      · by_cases k2 : k = 2
        · subst k2
          go_wp2
          go_round
          case rel => exact ⟨3, by omega, rfl, rfl⟩
          case measure => simp [intOf]
        · obtain rfl : k = 3 := by omega
          clear i0 i1 i2 k0 k1 k2
          go_wp2_with (first | (go_at_call 29; refine (within_any _ _ _ _).mono ?_; rintro e w' ⟨rfl, rfl⟩))
          all_goals go_ret
          all_goals exact ⟨ret_bool (valid_no (by unfold ValidP; omega)), (by repeat (first | exact Ext.refl _ | exact Ext.alloc _ _ | refine Ext.trans ?_ (Ext.alloc _ _)))⟩

set_option maxRecDepth 100000 in
set_option maxHeartbeats 1000000 in
theorem Valid_key_z256 (d : DS) (w : World) (hs : d.interval = 256) (ho : 1 ≤ d.org) (ho2 : d.org ≤ 3) (hl : 1 ≤ d.length) (hl2 : d.length ≤ 200) (hz : ¬ (d.format = 0 ∧ d.block = 0)) : Calls Tryz.prog 17 #[.agg #[.int .i64 d.id, .int .i64 d.org, .int .i64 d.format, .int .i64 d.length, .int .i64 d.block, .int .i64 d.keyAt, .int .i64 d.keyLength, .int .i64 d.interval, .int .i64 d.area, .int .i64 d.freeInterval, .int .i64 d.freeArea, .int .i64 d.base, .int .i64 d.altAt, .int .i64 d.altLength, .bool d.unique, .int .i64 d.cls, .string ⟨d.volume.toArray⟩, .string ⟨d.owner.toArray⟩, .int .i64 d.created, .int .i64 d.expires, .bool d.archived]] w fun e w' => e = .returned (.bool (validB d)) ∧ Ext w w' := by
  have HN : Hid (false = validB d) := Lib.hid (valid_no (by unfold ValidP; omega))
  have HZ : Hid ([d.format, d.block].all (· == 0) = false) := Lib.hid (by simp; omega)
  clear hz
  have i0 : ∀ w, (Instr.index 73 (.agg #[.int .i64 128, .int .i64 256, .int .i64 512]) (.int .i64 0)).run Tryz.prog w = .ok (.int .i64 128) w := fun _ => by kernel_rfl
  have i1 : ∀ w, (Instr.index 73 (.agg #[.int .i64 128, .int .i64 256, .int .i64 512]) (.int .i64 1)).run Tryz.prog w = .ok (.int .i64 256) w := fun _ => by kernel_rfl
  have i2 : ∀ w, (Instr.index 73 (.agg #[.int .i64 128, .int .i64 256, .int .i64 512]) (.int .i64 2)).run Tryz.prog w = .ok (.int .i64 512) w := fun _ => by kernel_rfl
  simp only [hs]
  go_enter Tryz.func17, Tryz.ntmps17
  go_wp2
  go_loop [4, 9] (fun kn i => ∃ k : Nat, k ≤ 3 ∧ i = .int .i64 k ∧ kn = .bool (decide (1 < k))) (fun _ i => 3 - (intOf i).toNat)
  case atStart => exact ⟨0, Nat.zero_le _, rfl, rfl⟩
  case round =>
    obtain ⟨k, hk, rfl, rfl⟩ := hrel
    by_cases k0 : k = 0
    · subst k0
      go_wp2
      go_round
      case rel => exact ⟨1, by omega, rfl, rfl⟩
      case measure => simp [intOf]
    · by_cases k1 : k = 1
      · subst k1
        go_wp2
        go_round
        case rel => exact ⟨2, by omega, rfl, rfl⟩
        case measure => simp [intOf]
      · by_cases k2 : k = 2
        · subst k2
          go_wp2
          go_round
          case rel => exact ⟨3, by omega, rfl, rfl⟩
          case measure => simp [intOf]
        · obtain rfl : k = 3 := by omega
          clear i0 i1 i2 k0 k1 k2
          go_wp2_with (first | (go_at_call 29; refine (within_any _ _ _ _).mono ?_; rintro e w' ⟨rfl, rfl⟩) | (go_at_call 30; go_must (refine (zeros_key _ _ 2 [d.format, d.block] _ (ints_at _ _ [d.format, d.block] 3 _ rfl (by simp)) rfl (by omega)).mono ?_; rw [HZ.out]; rintro e w' ⟨rfl, rfl⟩)))
          all_goals go_ret
          all_goals exact ⟨ret_bool HN.out, (by repeat (first | exact Ext.refl _ | exact Ext.alloc _ _ | refine Ext.trans ?_ (Ext.alloc _ _)))⟩

set_option maxRecDepth 100000 in
set_option maxHeartbeats 1000000 in
theorem Valid_key_e256 (d : DS) (w : World) (hs : d.interval = 256) (ho : 1 ≤ d.org) (ho2 : d.org ≤ 3) (h3 : (d.org != 3) = true) (hl : 1 ≤ d.length) (hl2 : d.length ≤ 200) (hf : d.format = 0) (hb : d.block = 0) : Calls Tryz.prog 17 #[.agg #[.int .i64 d.id, .int .i64 d.org, .int .i64 d.format, .int .i64 d.length, .int .i64 d.block, .int .i64 d.keyAt, .int .i64 d.keyLength, .int .i64 d.interval, .int .i64 d.area, .int .i64 d.freeInterval, .int .i64 d.freeArea, .int .i64 d.base, .int .i64 d.altAt, .int .i64 d.altLength, .bool d.unique, .int .i64 d.cls, .string ⟨d.volume.toArray⟩, .string ⟨d.owner.toArray⟩, .int .i64 d.created, .int .i64 d.expires, .bool d.archived]] w fun e w' => e = .returned (.bool (validB d)) ∧ Ext w w' := by
  have h3' : d.org ≠ 3 := by simpa using h3
  have HZ : Hid ([d.format, d.block].all (· == 0) = true) := Lib.hid (by simp [hf, hb])
  have HV : Hid ([d.keyAt, d.keyLength, d.area, d.freeInterval, d.freeArea].all (· == 0) = validB d) := Lib.hid (by
    cases hv : [d.keyAt, d.keyLength, d.area, d.freeInterval, d.freeArea].all (· == 0)
    · refine valid_no (fun k => ?_)
      obtain ⟨a, b, c, e, f⟩ := k.2.2.2.2.2.2.2.2.2 h3'
      rw [a, b, c, e, f] at hv
      simp at hv
    · simp at hv
      exact valid_yes (by unfold ValidP; omega))
  clear hf hb h3'
  have i0 : ∀ w, (Instr.index 73 (.agg #[.int .i64 128, .int .i64 256, .int .i64 512]) (.int .i64 0)).run Tryz.prog w = .ok (.int .i64 128) w := fun _ => by kernel_rfl
  have i1 : ∀ w, (Instr.index 73 (.agg #[.int .i64 128, .int .i64 256, .int .i64 512]) (.int .i64 1)).run Tryz.prog w = .ok (.int .i64 256) w := fun _ => by kernel_rfl
  have i2 : ∀ w, (Instr.index 73 (.agg #[.int .i64 128, .int .i64 256, .int .i64 512]) (.int .i64 2)).run Tryz.prog w = .ok (.int .i64 512) w := fun _ => by kernel_rfl
  simp only [hs]
  go_enter Tryz.func17, Tryz.ntmps17
  go_wp2
  go_loop [4, 9] (fun kn i => ∃ k : Nat, k ≤ 3 ∧ i = .int .i64 k ∧ kn = .bool (decide (1 < k))) (fun _ i => 3 - (intOf i).toNat)
  case atStart => exact ⟨0, Nat.zero_le _, rfl, rfl⟩
  case round =>
    obtain ⟨k, hk, rfl, rfl⟩ := hrel
    by_cases k0 : k = 0
    · subst k0
      go_wp2
      go_round
      case rel => exact ⟨1, by omega, rfl, rfl⟩
      case measure => simp [intOf]
    · by_cases k1 : k = 1
      · subst k1
        go_wp2
        go_round
        case rel => exact ⟨2, by omega, rfl, rfl⟩
        case measure => simp [intOf]
      · by_cases k2 : k = 2
        · subst k2
          go_wp2
          go_round
          case rel => exact ⟨3, by omega, rfl, rfl⟩
          case measure => simp [intOf]
        · obtain rfl : k = 3 := by omega
          clear i0 i1 i2 k0 k1 k2
          go_wp2_with (first | (go_at_call 30; have tk := HZ; (refine (zeros_key _ _ 2 [d.format, d.block] _ (ints_at _ _ [d.format, d.block] 3 _ rfl (by simp)) rfl (by omega)).mono ?_; rw [HZ.out]; rintro e w' ⟨rfl, rfl⟩; clear HZ tk)) | (go_at_call 30; go_must (refine (zeros_key _ _ 5 [d.keyAt, d.keyLength, d.area, d.freeInterval, d.freeArea] _ (ints_at _ _ [d.keyAt, d.keyLength, d.area, d.freeInterval, d.freeArea] 3 _ rfl (by simp)) rfl (by omega)).mono ?_; rw [HV.out]; rintro e w' ⟨rfl, rfl⟩)) | (go_at_call 29; refine (within_any _ _ _ _).mono ?_; rintro e w' ⟨rfl, rfl⟩))
          all_goals go_ret
          all_goals exact ⟨ret_bool rfl, (by repeat (first | exact Ext.refl _ | exact Ext.alloc _ _ | refine Ext.trans ?_ (Ext.alloc _ _)))⟩

set_option maxRecDepth 100000 in
set_option maxHeartbeats 1000000 in
theorem Valid_key_k256 (d : DS) (w : World) (hs : d.interval = 256) (h3 : d.org = 3) (hl : 1 ≤ d.length) (hl2 : d.length ≤ 200) (hf : d.format = 0) (hb : d.block = 0) : Calls Tryz.prog 17 #[.agg #[.int .i64 d.id, .int .i64 d.org, .int .i64 d.format, .int .i64 d.length, .int .i64 d.block, .int .i64 d.keyAt, .int .i64 d.keyLength, .int .i64 d.interval, .int .i64 d.area, .int .i64 d.freeInterval, .int .i64 d.freeArea, .int .i64 d.base, .int .i64 d.altAt, .int .i64 d.altLength, .bool d.unique, .int .i64 d.cls, .string ⟨d.volume.toArray⟩, .string ⟨d.owner.toArray⟩, .int .i64 d.created, .int .i64 d.expires, .bool d.archived]] w fun e w' => e = .returned (.bool (validB d)) ∧ Ext w w' := by
  have HZ : Hid ([d.format, d.block].all (· == 0) = true) := Lib.hid (by simp [hf, hb])
  have HF := Lib.hid hf
  have HB := Lib.hid hb
  clear hf hb
  have i0 : ∀ w, (Instr.index 73 (.agg #[.int .i64 128, .int .i64 256, .int .i64 512]) (.int .i64 0)).run Tryz.prog w = .ok (.int .i64 128) w := fun _ => by kernel_rfl
  have i1 : ∀ w, (Instr.index 73 (.agg #[.int .i64 128, .int .i64 256, .int .i64 512]) (.int .i64 1)).run Tryz.prog w = .ok (.int .i64 256) w := fun _ => by kernel_rfl
  have i2 : ∀ w, (Instr.index 73 (.agg #[.int .i64 128, .int .i64 256, .int .i64 512]) (.int .i64 2)).run Tryz.prog w = .ok (.int .i64 512) w := fun _ => by kernel_rfl
  simp only [hs, h3]
  go_enter Tryz.func17, Tryz.ntmps17
  go_wp2
  go_loop [4, 9] (fun kn i => ∃ k : Nat, k ≤ 3 ∧ i = .int .i64 k ∧ kn = .bool (decide (1 < k))) (fun _ i => 3 - (intOf i).toNat)
  case atStart => exact ⟨0, Nat.zero_le _, rfl, rfl⟩
  case round =>
    obtain ⟨k, hk, rfl, rfl⟩ := hrel
    by_cases k0 : k = 0
    · subst k0
      go_wp2
      go_round
      case rel => exact ⟨1, by omega, rfl, rfl⟩
      case measure => simp [intOf]
    · by_cases k1 : k = 1
      · subst k1
        go_wp2
        go_round
        case rel => exact ⟨2, by omega, rfl, rfl⟩
        case measure => simp [intOf]
      · by_cases k2 : k = 2
        · subst k2
          go_wp2
          go_round
          case rel => exact ⟨3, by omega, rfl, rfl⟩
          case measure => simp [intOf]
        · obtain rfl : k = 3 := by omega
          clear i0 i1 i2 k0 k1 k2
          go_wp2_with (first | (go_at_call 30; go_must (refine (zeros_key _ _ 2 [d.format, d.block] _ (ints_at _ _ [d.format, d.block] 3 _ rfl (by simp)) rfl (by omega)).mono ?_; rw [HZ.out]; rintro e w' ⟨rfl, rfl⟩)) | (go_at_call 29; refine (within_any _ _ _ _).mono ?_; rintro e w' ⟨rfl, rfl⟩))
          all_goals go_ret
          all_goals first | exact ⟨ret_bool (valid_no (by unfold ValidP; have := HF.out; have := HB.out; omega)), (by repeat (first | exact Ext.refl _ | exact Ext.alloc _ _ | refine Ext.trans ?_ (Ext.alloc _ _)))⟩ | exact ⟨ret_bool (valid_last (by unfold ValidP; simp only [decide_eq_true_eq]; omega) (by unfold ValidP; simp only [decide_eq_true_eq]; have := HF.out; have := HB.out; omega)), (by repeat (first | exact Ext.refl _ | exact Ext.alloc _ _ | refine Ext.trans ?_ (Ext.alloc _ _)))⟩

theorem Valid_key_256 (d : DS) (w : World) (hs : d.interval = 256) : Calls Tryz.prog 17 #[.agg #[.int .i64 d.id, .int .i64 d.org, .int .i64 d.format, .int .i64 d.length, .int .i64 d.block, .int .i64 d.keyAt, .int .i64 d.keyLength, .int .i64 d.interval, .int .i64 d.area, .int .i64 d.freeInterval, .int .i64 d.freeArea, .int .i64 d.base, .int .i64 d.altAt, .int .i64 d.altLength, .bool d.unique, .int .i64 d.cls, .string ⟨d.volume.toArray⟩, .string ⟨d.owner.toArray⟩, .int .i64 d.created, .int .i64 d.expires, .bool d.archived]] w fun e w' => e = .returned (.bool (validB d)) ∧ Ext w w' := by
  by_cases ho : 1 ≤ d.org ∧ d.org ≤ 3
  · by_cases hl : 1 ≤ d.length ∧ d.length ≤ 200
    · by_cases hz : d.format = 0 ∧ d.block = 0
      · by_cases h3 : d.org = 3
        · exact Valid_key_k256 d w hs h3 hl.1 hl.2 hz.1 hz.2
        · exact Valid_key_e256 d w hs ho.1 ho.2 (by simpa using h3) hl.1 hl.2 hz.1 hz.2
      · exact Valid_key_z256 d w hs ho.1 ho.2 hl.1 hl.2 hz
    · exact Valid_key_l256 d w hs ho.1 ho.2 hl (by simp; omega)
  · exact Valid_key_o256 d w hs ho (by simp; omega)
end Go.Proofs.YtmnpappbacndlaaGreatDoor
/- The walk of chapter 16's Valid (program): intervals of 512 bytes. -/
namespace Go.Proofs.YtmnpappbacndlaaGreatDoor
open Go.RowKit Dsd

set_option maxRecDepth 100000 in
set_option maxHeartbeats 1000000 in
theorem Valid_key_o512 (d : DS) (w : World) (hs : d.interval = 512) (ho : ¬ (1 ≤ d.org ∧ d.org ≤ 3)) (hO : (decide (1 ≤ d.org) && decide (d.org ≤ 3)) = false) : Calls Tryz.prog 17 #[.agg #[.int .i64 d.id, .int .i64 d.org, .int .i64 d.format, .int .i64 d.length, .int .i64 d.block, .int .i64 d.keyAt, .int .i64 d.keyLength, .int .i64 d.interval, .int .i64 d.area, .int .i64 d.freeInterval, .int .i64 d.freeArea, .int .i64 d.base, .int .i64 d.altAt, .int .i64 d.altLength, .bool d.unique, .int .i64 d.cls, .string ⟨d.volume.toArray⟩, .string ⟨d.owner.toArray⟩, .int .i64 d.created, .int .i64 d.expires, .bool d.archived]] w fun e w' => e = .returned (.bool (validB d)) ∧ Ext w w' := by
  have i0 : ∀ w, (Instr.index 73 (.agg #[.int .i64 128, .int .i64 256, .int .i64 512]) (.int .i64 0)).run Tryz.prog w = .ok (.int .i64 128) w := fun _ => by kernel_rfl
  have i1 : ∀ w, (Instr.index 73 (.agg #[.int .i64 128, .int .i64 256, .int .i64 512]) (.int .i64 1)).run Tryz.prog w = .ok (.int .i64 256) w := fun _ => by kernel_rfl
  have i2 : ∀ w, (Instr.index 73 (.agg #[.int .i64 128, .int .i64 256, .int .i64 512]) (.int .i64 2)).run Tryz.prog w = .ok (.int .i64 512) w := fun _ => by kernel_rfl
  simp only [hs]
  go_enter Tryz.func17, Tryz.ntmps17
  go_wp2
  go_loop [4, 9] (fun kn i => ∃ k : Nat, k ≤ 3 ∧ i = .int .i64 k ∧ kn = .bool (decide (2 < k))) (fun _ i => 3 - (intOf i).toNat)
  case atStart => exact ⟨0, Nat.zero_le _, rfl, rfl⟩
  case round =>
    obtain ⟨k, hk, rfl, rfl⟩ := hrel
    by_cases k0 : k = 0
    · subst k0
      go_wp2
      go_round
      case rel => exact ⟨1, by omega, rfl, rfl⟩
      case measure => simp [intOf]
    · by_cases k1 : k = 1
      · subst k1
        go_wp2
        go_round
        case rel => exact ⟨2, by omega, rfl, rfl⟩
        case measure => simp [intOf]
      · by_cases k2 : k = 2
        · subst k2
          go_wp2
          go_round
          case rel => exact ⟨3, by omega, rfl, rfl⟩
          case measure => simp [intOf]
        · obtain rfl : k = 3 := by omega
          clear i0 i1 i2 k0 k1 k2
          go_wp2_with (first | (go_at_call 29; refine (within_any _ _ _ _).mono ?_; rintro e w' ⟨rfl, rfl⟩))
          all_goals go_ret
          all_goals exact ⟨ret_bool (valid_no (by unfold ValidP; omega)), (by repeat (first | exact Ext.refl _ | exact Ext.alloc _ _ | refine Ext.trans ?_ (Ext.alloc _ _)))⟩

set_option maxRecDepth 100000 in
set_option maxHeartbeats 1000000 in
theorem Valid_key_l512 (d : DS) (w : World) (hs : d.interval = 512) (ho : 1 ≤ d.org) (ho2 : d.org ≤ 3) (hl : ¬ (1 ≤ d.length ∧ d.length ≤ 200)) (hL : (decide (1 ≤ d.length) && decide (d.length ≤ 200)) = false) : Calls Tryz.prog 17 #[.agg #[.int .i64 d.id, .int .i64 d.org, .int .i64 d.format, .int .i64 d.length, .int .i64 d.block, .int .i64 d.keyAt, .int .i64 d.keyLength, .int .i64 d.interval, .int .i64 d.area, .int .i64 d.freeInterval, .int .i64 d.freeArea, .int .i64 d.base, .int .i64 d.altAt, .int .i64 d.altLength, .bool d.unique, .int .i64 d.cls, .string ⟨d.volume.toArray⟩, .string ⟨d.owner.toArray⟩, .int .i64 d.created, .int .i64 d.expires, .bool d.archived]] w fun e w' => e = .returned (.bool (validB d)) ∧ Ext w w' := by
  have i0 : ∀ w, (Instr.index 73 (.agg #[.int .i64 128, .int .i64 256, .int .i64 512]) (.int .i64 0)).run Tryz.prog w = .ok (.int .i64 128) w := fun _ => by kernel_rfl
  have i1 : ∀ w, (Instr.index 73 (.agg #[.int .i64 128, .int .i64 256, .int .i64 512]) (.int .i64 1)).run Tryz.prog w = .ok (.int .i64 256) w := fun _ => by kernel_rfl
  have i2 : ∀ w, (Instr.index 73 (.agg #[.int .i64 128, .int .i64 256, .int .i64 512]) (.int .i64 2)).run Tryz.prog w = .ok (.int .i64 512) w := fun _ => by kernel_rfl
  simp only [hs]
  go_enter Tryz.func17, Tryz.ntmps17
  go_wp2
  go_loop [4, 9] (fun kn i => ∃ k : Nat, k ≤ 3 ∧ i = .int .i64 k ∧ kn = .bool (decide (2 < k))) (fun _ i => 3 - (intOf i).toNat)
  case atStart => exact ⟨0, Nat.zero_le _, rfl, rfl⟩
  case round =>
    obtain ⟨k, hk, rfl, rfl⟩ := hrel
    by_cases k0 : k = 0
    · subst k0
      go_wp2
      go_round
      case rel => exact ⟨1, by omega, rfl, rfl⟩
      case measure => simp [intOf]
    · by_cases k1 : k = 1
      · subst k1
        go_wp2
        go_round
        case rel => exact ⟨2, by omega, rfl, rfl⟩
        case measure => simp [intOf]
      · by_cases k2 : k = 2
        · subst k2
          go_wp2
          go_round
          case rel => exact ⟨3, by omega, rfl, rfl⟩
          case measure => simp [intOf]
        · obtain rfl : k = 3 := by omega
          clear i0 i1 i2 k0 k1 k2
          go_wp2_with (first | (go_at_call 29; refine (within_any _ _ _ _).mono ?_; rintro e w' ⟨rfl, rfl⟩))
          all_goals go_ret
          all_goals exact ⟨ret_bool (valid_no (by unfold ValidP; omega)), (by repeat (first | exact Ext.refl _ | exact Ext.alloc _ _ | refine Ext.trans ?_ (Ext.alloc _ _)))⟩

set_option maxRecDepth 100000 in
set_option maxHeartbeats 1000000 in
theorem Valid_key_z512 (d : DS) (w : World) (hs : d.interval = 512) (ho : 1 ≤ d.org) (ho2 : d.org ≤ 3) (hl : 1 ≤ d.length) (hl2 : d.length ≤ 200) (hz : ¬ (d.format = 0 ∧ d.block = 0)) : Calls Tryz.prog 17 #[.agg #[.int .i64 d.id, .int .i64 d.org, .int .i64 d.format, .int .i64 d.length, .int .i64 d.block, .int .i64 d.keyAt, .int .i64 d.keyLength, .int .i64 d.interval, .int .i64 d.area, .int .i64 d.freeInterval, .int .i64 d.freeArea, .int .i64 d.base, .int .i64 d.altAt, .int .i64 d.altLength, .bool d.unique, .int .i64 d.cls, .string ⟨d.volume.toArray⟩, .string ⟨d.owner.toArray⟩, .int .i64 d.created, .int .i64 d.expires, .bool d.archived]] w fun e w' => e = .returned (.bool (validB d)) ∧ Ext w w' := by
  have HN : Hid (false = validB d) := Lib.hid (valid_no (by unfold ValidP; omega))
  have HZ : Hid ([d.format, d.block].all (· == 0) = false) := Lib.hid (by simp; omega)
  clear hz
  have i0 : ∀ w, (Instr.index 73 (.agg #[.int .i64 128, .int .i64 256, .int .i64 512]) (.int .i64 0)).run Tryz.prog w = .ok (.int .i64 128) w := fun _ => by kernel_rfl
  have i1 : ∀ w, (Instr.index 73 (.agg #[.int .i64 128, .int .i64 256, .int .i64 512]) (.int .i64 1)).run Tryz.prog w = .ok (.int .i64 256) w := fun _ => by kernel_rfl
  have i2 : ∀ w, (Instr.index 73 (.agg #[.int .i64 128, .int .i64 256, .int .i64 512]) (.int .i64 2)).run Tryz.prog w = .ok (.int .i64 512) w := fun _ => by kernel_rfl
  simp only [hs]
  go_enter Tryz.func17, Tryz.ntmps17
  go_wp2
  go_loop [4, 9] (fun kn i => ∃ k : Nat, k ≤ 3 ∧ i = .int .i64 k ∧ kn = .bool (decide (2 < k))) (fun _ i => 3 - (intOf i).toNat)
  case atStart => exact ⟨0, Nat.zero_le _, rfl, rfl⟩
  case round =>
    obtain ⟨k, hk, rfl, rfl⟩ := hrel
    by_cases k0 : k = 0
    · subst k0
      go_wp2
      go_round
      case rel => exact ⟨1, by omega, rfl, rfl⟩
      case measure => simp [intOf]
    · by_cases k1 : k = 1
      · subst k1
        go_wp2
        go_round
        case rel => exact ⟨2, by omega, rfl, rfl⟩
        case measure => simp [intOf]
      · by_cases k2 : k = 2
        · subst k2
          go_wp2
          go_round
          case rel => exact ⟨3, by omega, rfl, rfl⟩
          case measure => simp [intOf]
        · obtain rfl : k = 3 := by omega
          clear i0 i1 i2 k0 k1 k2
          go_wp2_with (first | (go_at_call 29; refine (within_any _ _ _ _).mono ?_; rintro e w' ⟨rfl, rfl⟩) | (go_at_call 30; go_must (refine (zeros_key _ _ 2 [d.format, d.block] _ (ints_at _ _ [d.format, d.block] 3 _ rfl (by simp)) rfl (by omega)).mono ?_; rw [HZ.out]; rintro e w' ⟨rfl, rfl⟩)))
          all_goals go_ret
          all_goals exact ⟨ret_bool HN.out, (by repeat (first | exact Ext.refl _ | exact Ext.alloc _ _ | refine Ext.trans ?_ (Ext.alloc _ _)))⟩

set_option maxRecDepth 100000 in
set_option maxHeartbeats 1000000 in
theorem Valid_key_e512 (d : DS) (w : World) (hs : d.interval = 512) (ho : 1 ≤ d.org) (ho2 : d.org ≤ 3) (h3 : (d.org != 3) = true) (hl : 1 ≤ d.length) (hl2 : d.length ≤ 200) (hf : d.format = 0) (hb : d.block = 0) : Calls Tryz.prog 17 #[.agg #[.int .i64 d.id, .int .i64 d.org, .int .i64 d.format, .int .i64 d.length, .int .i64 d.block, .int .i64 d.keyAt, .int .i64 d.keyLength, .int .i64 d.interval, .int .i64 d.area, .int .i64 d.freeInterval, .int .i64 d.freeArea, .int .i64 d.base, .int .i64 d.altAt, .int .i64 d.altLength, .bool d.unique, .int .i64 d.cls, .string ⟨d.volume.toArray⟩, .string ⟨d.owner.toArray⟩, .int .i64 d.created, .int .i64 d.expires, .bool d.archived]] w fun e w' => e = .returned (.bool (validB d)) ∧ Ext w w' := by
  have h3' : d.org ≠ 3 := by simpa using h3
  have HZ : Hid ([d.format, d.block].all (· == 0) = true) := Lib.hid (by simp [hf, hb])
  have HV : Hid ([d.keyAt, d.keyLength, d.area, d.freeInterval, d.freeArea].all (· == 0) = validB d) := Lib.hid (by
    cases hv : [d.keyAt, d.keyLength, d.area, d.freeInterval, d.freeArea].all (· == 0)
    · refine valid_no (fun k => ?_)
      obtain ⟨a, b, c, e, f⟩ := k.2.2.2.2.2.2.2.2.2 h3'
      rw [a, b, c, e, f] at hv
      simp at hv
    · simp at hv
      exact valid_yes (by unfold ValidP; omega))
  clear hf hb h3'
  have i0 : ∀ w, (Instr.index 73 (.agg #[.int .i64 128, .int .i64 256, .int .i64 512]) (.int .i64 0)).run Tryz.prog w = .ok (.int .i64 128) w := fun _ => by kernel_rfl
  have i1 : ∀ w, (Instr.index 73 (.agg #[.int .i64 128, .int .i64 256, .int .i64 512]) (.int .i64 1)).run Tryz.prog w = .ok (.int .i64 256) w := fun _ => by kernel_rfl
  have i2 : ∀ w, (Instr.index 73 (.agg #[.int .i64 128, .int .i64 256, .int .i64 512]) (.int .i64 2)).run Tryz.prog w = .ok (.int .i64 512) w := fun _ => by kernel_rfl
  simp only [hs]
  go_enter Tryz.func17, Tryz.ntmps17
  go_wp2
  go_loop [4, 9] (fun kn i => ∃ k : Nat, k ≤ 3 ∧ i = .int .i64 k ∧ kn = .bool (decide (2 < k))) (fun _ i => 3 - (intOf i).toNat)
  case atStart => exact ⟨0, Nat.zero_le _, rfl, rfl⟩
  case round =>
    obtain ⟨k, hk, rfl, rfl⟩ := hrel
    by_cases k0 : k = 0
    · subst k0
      go_wp2
      go_round
      case rel => exact ⟨1, by omega, rfl, rfl⟩
      case measure => simp [intOf]
    · by_cases k1 : k = 1
      · subst k1
        go_wp2
        go_round
        case rel => exact ⟨2, by omega, rfl, rfl⟩
        case measure => simp [intOf]
      · by_cases k2 : k = 2
        · subst k2
          go_wp2
          go_round
          case rel => exact ⟨3, by omega, rfl, rfl⟩
          case measure => simp [intOf]
        · obtain rfl : k = 3 := by omega
          clear i0 i1 i2 k0 k1 k2
          go_wp2_with (first | (go_at_call 30; have tk := HZ; (refine (zeros_key _ _ 2 [d.format, d.block] _ (ints_at _ _ [d.format, d.block] 3 _ rfl (by simp)) rfl (by omega)).mono ?_; rw [HZ.out]; rintro e w' ⟨rfl, rfl⟩; clear HZ tk)) | (go_at_call 30; go_must (refine (zeros_key _ _ 5 [d.keyAt, d.keyLength, d.area, d.freeInterval, d.freeArea] _ (ints_at _ _ [d.keyAt, d.keyLength, d.area, d.freeInterval, d.freeArea] 3 _ rfl (by simp)) rfl (by omega)).mono ?_; rw [HV.out]; rintro e w' ⟨rfl, rfl⟩)) | (go_at_call 29; refine (within_any _ _ _ _).mono ?_; rintro e w' ⟨rfl, rfl⟩))
          all_goals go_ret
          all_goals exact ⟨ret_bool rfl, (by repeat (first | exact Ext.refl _ | exact Ext.alloc _ _ | refine Ext.trans ?_ (Ext.alloc _ _)))⟩

set_option maxRecDepth 100000 in
set_option maxHeartbeats 1000000 in
theorem Valid_key_k512 (d : DS) (w : World) (hs : d.interval = 512) (h3 : d.org = 3) (hl : 1 ≤ d.length) (hl2 : d.length ≤ 200) (hf : d.format = 0) (hb : d.block = 0) : Calls Tryz.prog 17 #[.agg #[.int .i64 d.id, .int .i64 d.org, .int .i64 d.format, .int .i64 d.length, .int .i64 d.block, .int .i64 d.keyAt, .int .i64 d.keyLength, .int .i64 d.interval, .int .i64 d.area, .int .i64 d.freeInterval, .int .i64 d.freeArea, .int .i64 d.base, .int .i64 d.altAt, .int .i64 d.altLength, .bool d.unique, .int .i64 d.cls, .string ⟨d.volume.toArray⟩, .string ⟨d.owner.toArray⟩, .int .i64 d.created, .int .i64 d.expires, .bool d.archived]] w fun e w' => e = .returned (.bool (validB d)) ∧ Ext w w' := by
  have HZ : Hid ([d.format, d.block].all (· == 0) = true) := Lib.hid (by simp [hf, hb])
  have HF := Lib.hid hf
  have HB := Lib.hid hb
  clear hf hb
  have i0 : ∀ w, (Instr.index 73 (.agg #[.int .i64 128, .int .i64 256, .int .i64 512]) (.int .i64 0)).run Tryz.prog w = .ok (.int .i64 128) w := fun _ => by kernel_rfl
  have i1 : ∀ w, (Instr.index 73 (.agg #[.int .i64 128, .int .i64 256, .int .i64 512]) (.int .i64 1)).run Tryz.prog w = .ok (.int .i64 256) w := fun _ => by kernel_rfl
  have i2 : ∀ w, (Instr.index 73 (.agg #[.int .i64 128, .int .i64 256, .int .i64 512]) (.int .i64 2)).run Tryz.prog w = .ok (.int .i64 512) w := fun _ => by kernel_rfl
  simp only [hs, h3]
  go_enter Tryz.func17, Tryz.ntmps17
  go_wp2
  go_loop [4, 9] (fun kn i => ∃ k : Nat, k ≤ 3 ∧ i = .int .i64 k ∧ kn = .bool (decide (2 < k))) (fun _ i => 3 - (intOf i).toNat)
  case atStart => exact ⟨0, Nat.zero_le _, rfl, rfl⟩
  case round =>
    obtain ⟨k, hk, rfl, rfl⟩ := hrel
    by_cases k0 : k = 0
    · subst k0
      go_wp2
      go_round
      case rel => exact ⟨1, by omega, rfl, rfl⟩
      case measure => simp [intOf]
    · by_cases k1 : k = 1
      · subst k1
        go_wp2
        go_round
        case rel => exact ⟨2, by omega, rfl, rfl⟩
        case measure => simp [intOf]
      · by_cases k2 : k = 2
        · subst k2
          go_wp2
          go_round
          case rel => exact ⟨3, by omega, rfl, rfl⟩
          case measure => simp [intOf]
        · obtain rfl : k = 3 := by omega
          clear i0 i1 i2 k0 k1 k2
          go_wp2_with (first | (go_at_call 30; go_must (refine (zeros_key _ _ 2 [d.format, d.block] _ (ints_at _ _ [d.format, d.block] 3 _ rfl (by simp)) rfl (by omega)).mono ?_; rw [HZ.out]; rintro e w' ⟨rfl, rfl⟩)) | (go_at_call 29; refine (within_any _ _ _ _).mono ?_; rintro e w' ⟨rfl, rfl⟩))
          all_goals go_ret
          all_goals first | exact ⟨ret_bool (valid_no (by unfold ValidP; have := HF.out; have := HB.out; omega)), (by repeat (first | exact Ext.refl _ | exact Ext.alloc _ _ | refine Ext.trans ?_ (Ext.alloc _ _)))⟩ | exact ⟨ret_bool (valid_last (by unfold ValidP; simp only [decide_eq_true_eq]; omega) (by unfold ValidP; simp only [decide_eq_true_eq]; have := HF.out; have := HB.out; omega)), (by repeat (first | exact Ext.refl _ | exact Ext.alloc _ _ | refine Ext.trans ?_ (Ext.alloc _ _)))⟩

theorem Valid_key_512 (d : DS) (w : World) (hs : d.interval = 512) : Calls Tryz.prog 17 #[.agg #[.int .i64 d.id, .int .i64 d.org, .int .i64 d.format, .int .i64 d.length, .int .i64 d.block, .int .i64 d.keyAt, .int .i64 d.keyLength, .int .i64 d.interval, .int .i64 d.area, .int .i64 d.freeInterval, .int .i64 d.freeArea, .int .i64 d.base, .int .i64 d.altAt, .int .i64 d.altLength, .bool d.unique, .int .i64 d.cls, .string ⟨d.volume.toArray⟩, .string ⟨d.owner.toArray⟩, .int .i64 d.created, .int .i64 d.expires, .bool d.archived]] w fun e w' => e = .returned (.bool (validB d)) ∧ Ext w w' := by
  by_cases ho : 1 ≤ d.org ∧ d.org ≤ 3
  · by_cases hl : 1 ≤ d.length ∧ d.length ≤ 200
    · by_cases hz : d.format = 0 ∧ d.block = 0
      · by_cases h3 : d.org = 3
        · exact Valid_key_k512 d w hs h3 hl.1 hl.2 hz.1 hz.2
        · exact Valid_key_e512 d w hs ho.1 ho.2 (by simpa using h3) hl.1 hl.2 hz.1 hz.2
      · exact Valid_key_z512 d w hs ho.1 ho.2 hl.1 hl.2 hz
    · exact Valid_key_l512 d w hs ho.1 ho.2 hl (by simp; omega)
  · exact Valid_key_o512 d w hs ho (by simp; omega)
end Go.Proofs.YtmnpappbacndlaaGreatDoor
/- The walk of chapter 16's Valid (program): any description. -/
namespace Go.Proofs.YtmnpappbacndlaaGreatDoor
open Go.RowKit Dsd

set_option maxRecDepth 100000 in
set_option maxHeartbeats 1000000 in
theorem Valid_key_n (d : DS) (w : World) (h1 : (d.interval == 128) = false) (h2 : (d.interval == 256) = false) (h4 : (d.interval == 512) = false) : Calls Tryz.prog 17 #[.agg #[.int .i64 d.id, .int .i64 d.org, .int .i64 d.format, .int .i64 d.length, .int .i64 d.block, .int .i64 d.keyAt, .int .i64 d.keyLength, .int .i64 d.interval, .int .i64 d.area, .int .i64 d.freeInterval, .int .i64 d.freeArea, .int .i64 d.base, .int .i64 d.altAt, .int .i64 d.altLength, .bool d.unique, .int .i64 d.cls, .string ⟨d.volume.toArray⟩, .string ⟨d.owner.toArray⟩, .int .i64 d.created, .int .i64 d.expires, .bool d.archived]] w fun e w' => e = .returned (.bool (validB d)) ∧ Ext w w' := by
  have HN : Hid (false = validB d) := Lib.hid (valid_no (by simp at h1 h2 h4; unfold ValidP; omega))
  have i0 : ∀ w, (Instr.index 73 (.agg #[.int .i64 128, .int .i64 256, .int .i64 512]) (.int .i64 0)).run Tryz.prog w = .ok (.int .i64 128) w := fun _ => by kernel_rfl
  have i1 : ∀ w, (Instr.index 73 (.agg #[.int .i64 128, .int .i64 256, .int .i64 512]) (.int .i64 1)).run Tryz.prog w = .ok (.int .i64 256) w := fun _ => by kernel_rfl
  have i2 : ∀ w, (Instr.index 73 (.agg #[.int .i64 128, .int .i64 256, .int .i64 512]) (.int .i64 2)).run Tryz.prog w = .ok (.int .i64 512) w := fun _ => by kernel_rfl
  go_enter Tryz.func17, Tryz.ntmps17
  go_wp2
  go_loop [4, 9] (fun kn i => ∃ k : Nat, k ≤ 3 ∧ i = .int .i64 k ∧ kn = .bool (decide (3 < k))) (fun _ i => 3 - (intOf i).toNat)
  case atStart => exact ⟨0, Nat.zero_le _, rfl, rfl⟩
  case round =>
    obtain ⟨k, hk, rfl, rfl⟩ := hrel
    by_cases k0 : k = 0
    · subst k0
      go_wp2
      go_round
      case rel => exact ⟨1, by omega, rfl, rfl⟩
      case measure => simp [intOf]
    · by_cases k1 : k = 1
      · subst k1
        go_wp2
        go_round
        case rel => exact ⟨2, by omega, rfl, rfl⟩
        case measure => simp [intOf]
      · by_cases k2 : k = 2
        · subst k2
          go_wp2
          go_round
          case rel => exact ⟨3, by omega, rfl, rfl⟩
          case measure => simp [intOf]
        · obtain rfl : k = 3 := by omega
          clear i0 i1 i2 k0 k1 k2
          go_wp2_with (first | (go_at_call 29; refine (within_any _ _ _ _).mono ?_; rintro e w' ⟨rfl, rfl⟩))
          all_goals go_ret
          all_goals exact ⟨ret_bool HN.out, (by repeat (first | exact Ext.refl _ | exact Ext.alloc _ _ | refine Ext.trans ?_ (Ext.alloc _ _)))⟩

theorem Valid_any (d : DS) (w : World) : Calls Tryz.prog 17 #[.agg #[.int .i64 d.id, .int .i64 d.org, .int .i64 d.format, .int .i64 d.length, .int .i64 d.block, .int .i64 d.keyAt, .int .i64 d.keyLength, .int .i64 d.interval, .int .i64 d.area, .int .i64 d.freeInterval, .int .i64 d.freeArea, .int .i64 d.base, .int .i64 d.altAt, .int .i64 d.altLength, .bool d.unique, .int .i64 d.cls, .string ⟨d.volume.toArray⟩, .string ⟨d.owner.toArray⟩, .int .i64 d.created, .int .i64 d.expires, .bool d.archived]] w fun e w' => e = .returned (.bool (validB d)) ∧ Ext w w' := by
  by_cases b1 : d.interval = 128
  · exact Valid_key_128 d w b1
  · by_cases b2 : d.interval = 256
    · exact Valid_key_256 d w b2
    · by_cases b3 : d.interval = 512
      · exact Valid_key_512 d w b3
      · exact Valid_key_n d w (by simpa using b1) (by simpa using b2) (by simpa using b3)
end Go.Proofs.YtmnpappbacndlaaGreatDoor
