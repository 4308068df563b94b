/- Plain laws of chapter 19: operations one after the other. -/
import Derived.Test.YtchgjopckmjmmaaDoorP19
import Derived.Test.YtchgjopckmjmmaaDoorR17
import Derived.Test.YtchgjopckmjmmaaDoorR16
import Derived.Test.YtchgjopckmjmmaaDoorOp2
import Derived.Test.YtchgjopckmjmmaaDoorOp3
import Derived.Test.YtchgjopckmjmmaaDoorCards
import Derived.Test.YtchgjopckmjmmaaDoorTie
import Derived.WalkKit
import Derived.ProofKit
import Derived.OpenShut
import Derived.ShutString
import Derived.ChangeMaps5
import Derived.Below
import Derived.Lay
import Derived.Deep.DeepHandedRow
set_option linter.unusedSimpArgs false
set_option linter.unusedVariables false
namespace Dsd
/-- One operation. -/
noncomputable def stepR (m : List (List UInt8)) (h : Hd) (d : DS) (slot : Int) (r : List UInt8) : RelRes := if r = [] then eraseR m h d slot else putR m h d slot r
abbrev St := Hd × List (List UInt8)
noncomputable def stepS (d : DS) (s : St) (x : Int × List UInt8) : St := if (stepR s.2 s.1 d x.1 x.2).e = 0 then ((stepR s.2 s.1 d x.1 x.2).h, putsP s.2 (stepR s.2 s.1 d x.1 x.2).w) else s
noncomputable def stS (d : DS) (l : List (Int × List UInt8)) : St := l.foldl (stepS d) (Hd.zero, [[]])
theorem stS_snoc (d : DS) (l : List (Int × List UInt8)) (k : Nat) (h : k < l.length) : stS d (l.take (k + 1)) = stepS d (stS d (l.take k)) (l.getD k (0, [])) := by
  unfold stS
  rw [List.take_succ_eq_append_getElem h, List.foldl_append]
  simp [List.getD, h]
theorem esStr_len (size length : Int) (L : List Slt) : (esStr size length L).length ≤ 512 := by
  unfold esStr
  by_cases hs : slotsN size length = 0
  · unfold sStr
    rw [if_neg]
    · simp
    · rw [hs]; unfold sErr; simp
  · have hb : isSizeB size = true ∧ 1 ≤ length ∧ length ≤ 200 ∧ length ≤ size - 7 ∧ slotsN size length = (size - 4) / (length + 3) := by
      unfold slotsN at hs ⊢
      split at hs
      · exact absurd rfl hs
      · rename_i hx
        rw [if_neg hx]
        simp at hx
        obtain ⟨x1, x2⟩ := hx
        exact ⟨x1, by omega, by omega, by omega, rfl⟩
    obtain ⟨h1, h2, h3, h4, h5⟩ := hb
    obtain ⟨n, rfl, hn⟩ := isSize_nat h1
    unfold sStr
    split
    · rename_i h0
      obtain ⟨g1, g2, g3⟩ := sErr_zero h0
      have hN : ((slotsN n length).toNat : Int) = ((n : Int) - 4) / (length + 3) := by
        rw [h5]
        have : 0 ≤ ((n : Int) - 4) / (length + 3) := Int.ediv_nonneg (by omega) (by omega)
        omega
      have hm := Int.ediv_mul_le ((n : Int) - 4) (show length + 3 ≠ 0 by omega)
      rw [← hN] at hm
      obtain ⟨ln, rfl⟩ := Int.eq_ofNat_of_zero_le (show 0 ≤ length by omega)
      have hm2 : (slotsN n ln).toNat * (ln + 3) + 4 ≤ n := by
        have : (((slotsN n ln).toNat * (ln + 3) : Nat) : Int) = ((slotsN n ln).toNat : Int) * ((ln : Int) + 3) := by push_cast; rfl
        omega
      rw [Nat.mul_add] at hm2
      have hc := length_sCont g3
      have hmk := length_sMarks (ln : Int).toNat L (slotsN n ln).toNat
      simp only [Int.toNat_natCast] at hc hmk ⊢
      rw [length_wholeL _ _ _ (by omega)]
      omega
    · simp
theorem stepR_512 (m : List (List UInt8)) (h : Hd) (d : DS) (slot : Int) (r : List UInt8) : ∀ x ∈ (stepR m h d slot r).w, x.2.length ≤ 512 := by
  have hw : ∀ (p : Int) (L : List Slt), (wrS d p L).2.length ≤ 512 := fun p L => esStr_len _ _ _
  unfold stepR
  split
  · unfold eraseR
    split
    · simp [RelRes.no]
    · split
      · simp [RelRes.no]
      · intro x hx; simp at hx; subst hx; exact hw _ _
  · unfold putR
    split
    · simp [RelRes.no]
    · split
      · simp [RelRes.no]
      · split
        · simp [RelRes.no]
        · split
          · split
            · simp [RelRes.no]
            · intro x hx; simp at hx; subst hx; exact hw _ _
          · intro x hx
            simp only [List.mem_append, List.mem_singleton] at hx
            rcases hx with hx | rfl
            · unfold freshS at hx
              simp only [List.mem_map] at hx
              obtain ⟨i, _, rfl⟩ := hx
              exact hw _ _
            · exact hw _ _
theorem putsP_mem (P : List UInt8 → Prop) (h0 : P []) : ∀ (l : List (Int × List UInt8)), (∀ x ∈ l, P x.2) → ∀ (m : List (List UInt8)), (∀ s ∈ m, P s) → ∀ s ∈ putsP m l, P s
  | [], _, m, hm => hm
  | x :: l, hx, m, hm => putsP_mem P h0 l (fun y hy => hx y (by simp [hy])) (putP m x) (putP_mem m x P hm h0 (hx x (by simp)))
/-- What stands behind j operations. -/
structure SInv (d : DS) (j : Nat) (s : St) : Prop where
  good : (∃ F k, RMade d F k s.1 s.2 ∧ k ≤ 8 * j ∧ usedN F ≤ j ∧ validB d = true ∧ d.org = 2) ∨ (s = (Hd.zero, [[]]) ∧ doorOf Hd.zero d 2 ≠ 0)
  mem : ∀ x ∈ s.2, x.length ≤ 512
theorem sinv_zero (d : DS) : SInv d 0 (Hd.zero, [[]]) := by
  refine ⟨?_, by simp⟩
  by_cases h : doorOf Hd.zero d 2 = 0
  · exact .inl ⟨[], 0, rmade_nil d, by omega, by simp [usedN], (door_zero h).1, (door_zero h).2.2⟩
  · exact .inr ⟨rfl, h⟩
theorem SInv.len {d : DS} {j : Nat} {s : St} (h : SInv d j s) : 0 < s.2.length ∧ s.2.length ≤ 8 * j + 1 := by
  rcases h.good with ⟨F, k, r, hk, _⟩ | ⟨rfl, _⟩
  · rw [r.mlen]; omega
  · simp
theorem SInv.small {d : DS} {j : Nat} {s : St} (h : SInv d j s) (hj : j ≤ 1000) : Small s.2 := ⟨by have := h.len; omega, fun x hx => by have := h.mem x hx; omega⟩
/-- What an operation does to a cluster that was made by changes: it refuses, or it changes one slot. -/
theorem RMade.step {d : DS} {F : List Slt} {k : Nat} {h : Hd} {m : List (List UInt8)} (r : RMade d F k h m) (hv : validB d = true) (hd : doorOf h d 2 = 0) (hk : k ≤ 8000) (slot : Int) (rec : List UInt8) :
    (∃ c, c ≠ 0 ∧ stepR m h d slot rec = .no c ∧ (rec = [] → slot < 1 ∨ 65536 < slot ∨ (slotAt F (slot - 1).toNat).1 = false)) ∨
    (∃ (s k' : Nat), slot = (s : Int) + 1 ∧ s < 65536 ∧ (stepR m h d slot rec).e = 0 ∧ (stepR m h d slot rec).w.length ≤ 9 ∧ k ≤ k' ∧ k' ≤ k + 8 ∧ s < (padF (nS d) F k').length ∧
      RMade d (chS (nS d) F k' s (!rec.isEmpty, rec)) k' (stepR m h d slot rec).h (putsP m (stepR m h d slot rec).w) ∧ (rec = [] → (slotAt F s).1 = true) ∧ (rec ≠ [] → (rec.length : Int) = d.length)) := by
  by_cases hr : rec = []
  · subst hr
    have e : stepR m h d slot [] = eraseR m h d slot := by unfold stepR; rw [if_pos rfl]
    rw [e]
    by_cases hn : slot < 1 ∨ 65536 < slot ∨ (slotAt F (slot - 1).toNat).1 = false
    · obtain ⟨c, hc, hR⟩ := r.erase_no hv hd hn
      exact .inl ⟨c, hc, hR, fun _ => hn⟩
    · right
      obtain ⟨s, hs⟩ := Int.eq_ofNat_of_zero_le (show 0 ≤ slot - 1 by omega)
      have es : slot = (s : Int) + 1 := by omega
      have hu : (slotAt F s).1 = true := by
        have : ¬ (slotAt F (slot - 1).toNat).1 = false := fun x => hn (.inr (.inr x))
        rw [hs, Int.toNat_natCast] at this
        simpa using this
      obtain ⟨g1, g2, g3, g4⟩ := r.erase hv hd (show s < 65536 by omega) hu
      rw [← es] at g1 g2 g3
      exact ⟨s, k, es, by omega, g1, g2, Nat.le_refl _, by omega, g4, by simpa using g3, fun _ => hu, fun h => absurd rfl h⟩
  · have e : stepR m h d slot rec = putR m h d slot rec := by unfold stepR; rw [if_neg hr]
    rw [e]
    by_cases hn : slot < 1 ∨ 65536 < slot ∨ (rec.length : Int) ≠ d.length ∨ (k : Int) + 8 < pageS d slot
    · obtain ⟨c, hc, hR⟩ := r.put_no hd hn
      exact .inl ⟨c, hc, hR, fun h => absurd h hr⟩
    · right
      obtain ⟨s, hs⟩ := Int.eq_ofNat_of_zero_le (show 0 ≤ slot - 1 by omega)
      have es : slot = (s : Int) + 1 := by omega
      have hl : (rec.length : Int) = d.length := by
        by_cases x : (rec.length : Int) = d.length
        · exact x
        · exact absurd (.inr (.inr (.inl x))) hn
      have hp : s / nS d + 1 ≤ k + 8 := by
        have q1 := (page_nat hv s).1
        rw [← es] at q1
        omega
      obtain ⟨g1, g2, g3, g4⟩ := r.put hv hd (show s < 65536 by omega) hl hp (by omega)
      rw [← es] at g1 g2 g3
      have hie : (!rec.isEmpty) = true := by simpa using hr
      exact ⟨s, _, es, by omega, g1, g2, Nat.le_max_left _ _, by omega, g4, by rw [hie]; exact g3, fun h => absurd h hr, fun _ => hl⟩
theorem used_step {N k' s : Nat} {F : List Slt} {x : Slt} (h : s < (padF N F k').length) : usedN (chS N F k' s x) ≤ usedN F + 1 := by
  have := usedN_ch (x := x) h
  split at this <;> split at this <;> omega
theorem SInv.step {d : DS} {j : Nat} {s : St} (h : SInv d j s) (hj : j ≤ 900) (x : Int × List UInt8) : SInv d (j + 1) (stepS d s x) ∧ ((stepR s.2 s.1 d x.1 x.2).e = 0 → (stepR s.2 s.1 d x.1 x.2).w.length ≤ 9) := by
  have hmem : ∀ y ∈ (stepS d s x).2, y.length ≤ 512 := by
    unfold stepS
    split
    · exact putsP_mem (fun y => y.length ≤ 512) (by simp) _ (stepR_512 _ _ _ _ _) _ h.mem
    · exact h.mem
  rcases h.good with ⟨F, k, r, hk, hu, hv, ho⟩ | ⟨rfl, hd⟩
  · have hd := r.door hv ho (by omega) (by omega)
    rcases r.step hv hd (by omega) x.1 x.2 with ⟨c, hc, hR, _⟩ | ⟨s', k', _, _, g1, g2, g3, g4, g5, g6, _, _⟩
    · have hne : ¬ (stepR s.2 s.1 d x.1 x.2).e = 0 := by rw [hR]; exact hc
      have e : stepS d s x = s := by unfold stepS; rw [if_neg hne]
      rw [e] at hmem ⊢
      exact ⟨⟨.inl ⟨F, k, r, by omega, by omega, hv, ho⟩, hmem⟩, fun h => absurd h hne⟩
    · have e : stepS d s x = ((stepR s.2 s.1 d x.1 x.2).h, putsP s.2 (stepR s.2 s.1 d x.1 x.2).w) := by unfold stepS; rw [if_pos g1]
      rw [e] at hmem ⊢
      have := used_step (x := (!x.2.isEmpty, x.2)) g5
      exact ⟨⟨.inl ⟨_, k', g6, by omega, by omega, hv, ho⟩, hmem⟩, fun _ => g2⟩
  · have hne : ¬ (stepR [[]] Hd.zero d x.1 x.2).e = 0 := by
      unfold stepR
      split
      · unfold eraseR; rw [if_pos hd]; exact hd
      · unfold putR; rw [if_pos hd]; exact hd
    have e : stepS d (Hd.zero, [[]]) x = (Hd.zero, [[]]) := by unfold stepS; rw [if_neg hne]
    rw [e] at hmem ⊢
    exact ⟨⟨.inr ⟨rfl, hd⟩, hmem⟩, fun h => absurd h hne⟩
theorem stS_inv (d : DS) : ∀ (j : Nat) (l : List (Int × List UInt8)), j ≤ 900 → j ≤ l.length → SInv d j (stS d (l.take j))
  | 0, _, _, _ => sinv_zero d
  | j + 1, l, h1, h2 => by
    rw [stS_snoc d l j (by omega)]
    exact ((stS_inv d j l (by omega) (by omega)).step (by omega) _).1
end Dsd
/- The walks of the law's step, and of Small (operations). -/
namespace Go.Proofs.YtchgjopckmjmmaaDoor
open Go.RowKit Dsd

theorem opDesc : Tryd.prog.underlying 43 = some (.struct (Tryd.prog.fieldsOf 43)) := by kernel_rfl
theorem opSize : (Tryd.prog.info? 43).map (·.size) = some 2 := by kernel_rfl
theorem hd_ds_op (w : World) (h : Hd) (d : DS) (cs ds : Array Value) (t u : TypeId) :
    Ext w ((((w.alloc (.cells #[.int .i64 h.applied, .int .i64 h.count, .int .i64 h.fin, .int .i64 h.root, .int .i64 h.height, .int .i64 h.splits, .int .i64 h.areas] 28)).alloc (.cells #[.int .i64 d.id, .int .i64 d.org, .int .i64 d.format, .int .i64 d.length, .int .i64 d.block, .int .i64 d.keyAt, .int .i64 d.keyLength, .int .i64 d.interval, .int .i64 d.area, .int .i64 d.freeInterval, .int .i64 d.freeArea, .int .i64 d.base, .int .i64 d.altAt, .int .i64 d.altLength, .bool d.unique, .int .i64 d.cls, .string ⟨d.volume.toArray⟩, .string ⟨d.owner.toArray⟩, .int .i64 d.created, .int .i64 d.expires, .bool d.archived] 23)).alloc (.cells cs t)).alloc (.cells ds u)) ∧
    HdAt ((((w.alloc (.cells #[.int .i64 h.applied, .int .i64 h.count, .int .i64 h.fin, .int .i64 h.root, .int .i64 h.height, .int .i64 h.splits, .int .i64 h.areas] 28)).alloc (.cells #[.int .i64 d.id, .int .i64 d.org, .int .i64 d.format, .int .i64 d.length, .int .i64 d.block, .int .i64 d.keyAt, .int .i64 d.keyLength, .int .i64 d.interval, .int .i64 d.area, .int .i64 d.freeInterval, .int .i64 d.freeArea, .int .i64 d.base, .int .i64 d.altAt, .int .i64 d.altLength, .bool d.unique, .int .i64 d.cls, .string ⟨d.volume.toArray⟩, .string ⟨d.owner.toArray⟩, .int .i64 d.created, .int .i64 d.expires, .bool d.archived] 23)).alloc (.cells cs t)).alloc (.cells ds u)) w.heap.size h ∧
    DsAt ((((w.alloc (.cells #[.int .i64 h.applied, .int .i64 h.count, .int .i64 h.fin, .int .i64 h.root, .int .i64 h.height, .int .i64 h.splits, .int .i64 h.areas] 28)).alloc (.cells #[.int .i64 d.id, .int .i64 d.org, .int .i64 d.format, .int .i64 d.length, .int .i64 d.block, .int .i64 d.keyAt, .int .i64 d.keyLength, .int .i64 d.interval, .int .i64 d.area, .int .i64 d.freeInterval, .int .i64 d.freeArea, .int .i64 d.base, .int .i64 d.altAt, .int .i64 d.altLength, .bool d.unique, .int .i64 d.cls, .string ⟨d.volume.toArray⟩, .string ⟨d.owner.toArray⟩, .int .i64 d.created, .int .i64 d.expires, .bool d.archived] 23)).alloc (.cells cs t)).alloc (.cells ds u)) (w.heap.size + 1) d ∧
    Blk ((((w.alloc (.cells #[.int .i64 h.applied, .int .i64 h.count, .int .i64 h.fin, .int .i64 h.root, .int .i64 h.height, .int .i64 h.splits, .int .i64 h.areas] 28)).alloc (.cells #[.int .i64 d.id, .int .i64 d.org, .int .i64 d.format, .int .i64 d.length, .int .i64 d.block, .int .i64 d.keyAt, .int .i64 d.keyLength, .int .i64 d.interval, .int .i64 d.area, .int .i64 d.freeInterval, .int .i64 d.freeArea, .int .i64 d.base, .int .i64 d.altAt, .int .i64 d.altLength, .bool d.unique, .int .i64 d.cls, .string ⟨d.volume.toArray⟩, .string ⟨d.owner.toArray⟩, .int .i64 d.created, .int .i64 d.expires, .bool d.archived] 23)).alloc (.cells cs t)).alloc (.cells ds u)) (w.heap.size + 1 + 1) (.cells cs t) ∧
    Blk ((((w.alloc (.cells #[.int .i64 h.applied, .int .i64 h.count, .int .i64 h.fin, .int .i64 h.root, .int .i64 h.height, .int .i64 h.splits, .int .i64 h.areas] 28)).alloc (.cells #[.int .i64 d.id, .int .i64 d.org, .int .i64 d.format, .int .i64 d.length, .int .i64 d.block, .int .i64 d.keyAt, .int .i64 d.keyLength, .int .i64 d.interval, .int .i64 d.area, .int .i64 d.freeInterval, .int .i64 d.freeArea, .int .i64 d.base, .int .i64 d.altAt, .int .i64 d.altLength, .bool d.unique, .int .i64 d.cls, .string ⟨d.volume.toArray⟩, .string ⟨d.owner.toArray⟩, .int .i64 d.created, .int .i64 d.expires, .bool d.archived] 23)).alloc (.cells cs t)).alloc (.cells ds u)) (w.heap.size + 1 + 1 + 1) (.cells ds u) := by
  obtain ⟨h1, h2, h3, h4⟩ := hd_ds_cl w h d cs t
  exact ⟨h1.trans (Ext.alloc _ _), h2.alloc _, h3.alloc _, h4.alloc _, Blk.new1 _ _ _ (by simp)⟩

set_option maxRecDepth 100000 in
set_option maxHeartbeats 2000000 in
theorem step_any (p : Option Addr) (cap n : Nat) (m : List (List UInt8)) (h : Hd) (d : DS) (slot : Int) (r : List UInt8) (w : World) (hs : Strs w p m) (hn : m.length = n) (hm : Small m) (hrl : r.length ≤ 1000000) :
    Calls Tryd.prog 17 #[mV p n cap, .agg #[.int .i64 h.applied, .int .i64 h.count, .int .i64 h.fin, .int .i64 h.root, .int .i64 h.height, .int .i64 h.splits, .int .i64 h.areas], .agg #[.int .i64 d.id, .int .i64 d.org, .int .i64 d.format, .int .i64 d.length, .int .i64 d.block, .int .i64 d.keyAt, .int .i64 d.keyLength, .int .i64 d.interval, .int .i64 d.area, .int .i64 d.freeInterval, .int .i64 d.freeArea, .int .i64 d.base, .int .i64 d.altAt, .int .i64 d.altLength, .bool d.unique, .int .i64 d.cls, .string ⟨d.volume.toArray⟩, .string ⟨d.owner.toArray⟩, .int .i64 d.created, .int .i64 d.expires, .bool d.archived], .agg #[.int .i64 slot, .string ⟨r.toArray⟩]] w (RelOut (stepR m h d slot r) w) := by
  have Hs := Lib.hid hs
  have HP := Lib.hid (fun w' (e : Ext w w') => (rput_any p cap n m h d slot r w' (Hs.out.ext e) hn hm hrl))
  have HE := Lib.hid (fun w' (e : Ext w w') => (rerase_any p cap n m h d slot w' (Hs.out.ext e) hn hm))
  by_cases hr : r = []
  · have HS : Hid (stepR m h d slot r = eraseR m h d slot) := Lib.hid (by unfold stepR; rw [if_pos hr])
    rw [HS.out]
    subst hr
    clear hs HS HP
    generalize eraseR m h d slot = R at *
    obtain ⟨G, W, c⟩ := R
    go_enter Tryd.func17, Tryd.ntmps17
    go_upto_region 1 with (fail)
    refine wp_name (fun w0 => Ext w w0 ∧ HdAt w0 w.heap.size h ∧ DsAt w0 (w.heap.size + 1) d ∧ Blk w0 (w.heap.size + 1 + 1) (.cells #[.int .i64 slot, .string ⟨#[]⟩] 43) ∧ Blk w0 (w.heap.size + 1 + 1 + 1) (.cells #[.int .i64 0, .int .i64 0, .int .i64 0, .int .i64 0, .int .i64 0, .int .i64 0, .int .i64 0] 28)) (hd_ds_op w h d _ _ _ _) ?_
    rintro w0 ⟨he0, hb1, hb2, hbo, hbr⟩
    have c0 : w0.cell? ⟨w.heap.size + 1 + 1, 0, none⟩ = some (.int .i64 slot) := Blk.val hbo 0 _ rfl
    have c1 : w0.cell? ⟨w.heap.size + 1 + 1, 1, none⟩ = some (.string ⟨#[]⟩) := Blk.val hbo 1 _ rfl
    go_wp2_with (first
      | (refine wpList_ds rfl (.tmp 6) rfl _ rfl d hb2 ?_) | (refine wpList_hd rfl (.tmp 5) rfl _ rfl h hb1 ?_)
      | (go_at_call 23; refine (HE.out _ he0).mono ?_; rintro e w3 h3; obtain ⟨q3, c3, rfl, he3, hw3⟩ := relOut_val rfl h3; clear h3; have hbr3 := he3.blk _ _ hbr)
      | (refine wpList_put rfl 28 (.tmp 8) (.tmp 20) rfl _ #[.int .i64 G.applied, .int .i64 G.count, .int .i64 G.fin, .int .i64 G.root, .int .i64 G.height, .int .i64 G.splits, .int .i64 G.areas] rfl rfl _ _ hbr3 hdSize rfl (hd_one G) ?_; intro w4 hb4 hc4))
    exact bodyPost_ret (results_row2 Tryd.results17 _ _ _ _ _ _ rfl hb4 hdDesc rfl hdSize) rfl ⟨hc4.ext (he0.trans he3) (by omega), q3, _, c3, rfl, rfl, hw3.tchg (B := 0) (t := 28) (by decide) ⟨_, _, Nat.zero_le _, hbr3, hc4⟩⟩
  · have HS : Hid (stepR m h d slot r = putR m h d slot r) := Lib.hid (by unfold stepR; rw [if_neg hr])
    rw [HS.out]
    have hrI : (r == []) = false := by simpa using hr
    clear hs HS HE
    generalize putR m h d slot r = R at *
    obtain ⟨G, W, c⟩ := R
    go_enter Tryd.func17, Tryd.ntmps17
    go_upto_region 1 with (fail)
    refine wp_name (fun w0 => Ext w w0 ∧ HdAt w0 w.heap.size h ∧ DsAt w0 (w.heap.size + 1) d ∧ Blk w0 (w.heap.size + 1 + 1) (.cells #[.int .i64 slot, .string ⟨r.toArray⟩] 43) ∧ Blk w0 (w.heap.size + 1 + 1 + 1) (.cells #[.int .i64 0, .int .i64 0, .int .i64 0, .int .i64 0, .int .i64 0, .int .i64 0, .int .i64 0] 28)) (hd_ds_op w h d _ _ _ _) ?_
    rintro w0 ⟨he0, hb1, hb2, hbo, hbr⟩
    have c0 : w0.cell? ⟨w.heap.size + 1 + 1, 0, none⟩ = some (.int .i64 slot) := Blk.val hbo 0 _ rfl
    have c1 : w0.cell? ⟨w.heap.size + 1 + 1, 1, none⟩ = some (.string ⟨r.toArray⟩) := Blk.val hbo 1 _ rfl
    go_wp2_with (first
      | (refine wpList_ds rfl (.tmp 6) rfl _ rfl d hb2 ?_) | (refine wpList_hd rfl (.tmp 5) rfl _ rfl h hb1 ?_)
      | (go_at_call 15; refine (HP.out _ he0).mono ?_; rintro e w3 h3; obtain ⟨q3, c3, rfl, he3, hw3⟩ := relOut_val rfl h3; clear h3; have hbr3 := he3.blk _ _ hbr)
      | (refine wpList_put rfl 28 (.tmp 8) (.tmp 31) rfl _ #[.int .i64 G.applied, .int .i64 G.count, .int .i64 G.fin, .int .i64 G.root, .int .i64 G.height, .int .i64 G.splits, .int .i64 G.areas] rfl rfl _ _ hbr3 hdSize rfl (hd_one G) ?_; intro w4 hb4 hc4))
    exact bodyPost_ret (results_row2 Tryd.results17 _ _ _ _ _ _ rfl hb4 hdDesc rfl hdSize) rfl ⟨hc4.ext (he0.trans he3) (by omega), q3, _, c3, rfl, rfl, hw3.tchg (B := 0) (t := 28) (by decide) ⟨_, _, Nat.zero_le _, hbr3, hc4⟩⟩

/-- A slice of operations that is read. -/
def Opsl (w : World) (p : Option Addr) (L : List (Int × List UInt8)) : Prop :=
  L = [] ∨ ∃ b off, p = some ⟨b, off, none⟩ ∧ b < w.heap.size ∧ ∀ i, i < L.length → w.cell? ⟨b, off + i * 2, none⟩ = some (.int .i64 (L.getD i (0, [])).1) ∧ w.cell? ⟨b, off + i * 2 + 1, none⟩ = some (.string ⟨(L.getD i (0, [])).2.toArray⟩)
theorem Opsl.ext {w w' : World} {p : Option Addr} {L : List (Int × List UInt8)} (h : Opsl w p L) (e : Ext w w') : Opsl w' p L := by
  rcases h with h | ⟨b, off, hp, hb, hc⟩
  · exact .inl h
  · exact .inr ⟨b, off, hp, Nat.lt_of_lt_of_le hb e.size, fun i hi => ⟨(e.cell b _ hb).trans (hc i hi).1, (e.cell b _ hb).trans (hc i hi).2⟩⟩
theorem Opsl.at {w : World} {p : Option Addr} {L : List (Int × List UInt8)} (h : Opsl w p L) (k : Nat) (hk : k < L.length) :
    ∃ b off, p = some ⟨b, off, none⟩ ∧ b < w.heap.size ∧ ∀ i, i < L.length → w.cell? ⟨b, off + i * 2, none⟩ = some (.int .i64 (L.getD i (0, [])).1) ∧ w.cell? ⟨b, off + i * 2 + 1, none⟩ = some (.string ⟨(L.getD i (0, [])).2.toArray⟩) := by
  rcases h with h | h
  · subst h; simp at hk
  · exact h
/-- Are operations few, and their records short? -/
def fewB (L : List (Int × List UInt8)) (most : Nat) : Bool := L.all (fun x => decide (x.2.length ≤ 300)) && decide (L.length ≤ most)
theorem fewB_at {L : List (Int × List UInt8)} {most : Nat} (h : fewB L most = true) : L.length ≤ most ∧ ∀ i, (L.getD i (0, [])).2.length ≤ 300 := by
  unfold fewB at h
  simp at h
  refine ⟨h.2, fun i => ?_⟩
  by_cases hi : i < L.length
  · have e : L.getD i (0, []) = L[i] := by simp [List.getD, hi]
    rw [e]
    exact h.1 _ _ (List.getElem_mem hi)
  · simp [List.getD, List.getElem?_eq_none (Nat.le_of_not_lt hi)]

set_option maxRecDepth 100000 in
theorem SmallOps_any (p : Option Addr) (cap n : Nat) (L : List (Int × List UInt8)) (most : Nat) (w : World) (hs : Opsl w p L) (hn : L.length = n) (hL : n ≤ maxLen) (hmax : ∀ i, (L.getD i (0, [])).2.length ≤ maxLen) :
    Calls Tryd.prog 16 #[.slice p n cap, .int .i64 most] w fun e w' => e = .returned (.bool (fewB L most)) ∧ w = w' := by
  subst hn
  unfold maxLen at hL
  go_enter Tryd.func16, Tryd.ntmps16
  go_wp2
  obtain ⟨wo, rfl⟩ : ∃ wo : World, wo = w := ⟨_, rfl⟩
  go_loopw [5] (fun i wr => ∃ k : Nat, k ≤ L.length ∧ i = .int .i64 k ∧ ((L.take k).all fun x => decide (x.2.length ≤ 300)) = true ∧ wr = wo) (fun i _ => L.length - (intOf i).toNat)
  case atStart => exact ⟨0, Nat.zero_le _, rfl, rfl, rfl⟩
  case round =>
    obtain ⟨k, hk, rfl, hq, rfl⟩ := hrel
    have Hq := Lib.hid hq
    clear hq
    by_cases hlt : k < L.length
    · have hltI : (k : Int) < L.length := by omega
      obtain ⟨b, off, rfl, hb, hc⟩ := hs.at k hlt
      have hck := (hc k hlt).2
      have hmx := hmax k
      unfold maxLen at hmx
      have hG : L.getD k (0, []) = L[k] := by simp [List.getD, hlt]
      have HT : Hid (∀ s, (L.getD k (0, [])).2 = s → decide (s.length ≤ 300) = true → ((L.take (k + 1)).all fun x => decide (x.2.length ≤ 300)) = true) := Lib.hid (fun s hs h => by
        rw [List.take_succ_eq_append_getElem hlt, List.all_append, Hq.out]
        rw [hG] at hs
        simp [hs]; simpa using h)
      have HA : Hid (∀ s, (L.getD k (0, [])).2 = s → decide (s.length ≤ 300) = false → fewB L most = false) := Lib.hid (fun s hs h => by
        unfold fewB
        rw [Bool.and_eq_false_iff]; left
        rw [List.all_eq_false]
        exact ⟨L[k], List.getElem_mem hlt, by rw [hG] at hs; rw [hs, h]; simp⟩)
      clear hc hG
      generalize hx : (L.getD k (0, [])).2 = x at *
      by_cases hl : 300 < x.length
      · have hlI : decide ((300 : Int) < x.length) = true := decide_eq_true (by omega)
        have hlN : decide (300 < x.length) = true := decide_eq_true hl
        have HB := Lib.hid (HA.out x rfl (decide_eq_false (by omega)))
        clear HT HA
        go_wp2
        go_ret
        exact ⟨by rw [HB.out]; rfl, rfl⟩
      · have hlI : decide ((300 : Int) < x.length) = false := decide_eq_false (by omega)
        have hlN : decide (300 < x.length) = false := decide_eq_false hl
        have HB := Lib.hid (HT.out x rfl (decide_eq_true (by omega)))
        clear HT HA
        go_wp2
        go_roundw
        case rel => exact ⟨k + 1, by omega, by go_num, HB.out, by first | trivial | rfl⟩
        case measure => simp [intOf]; omega
    · have hltI : decide ((k : Int) < L.length) = false := decide_eq_false (by omega)
      obtain rfl : k = L.length := by omega
      have HF : Hid (fewB L most = decide (L.length ≤ most)) := Lib.hid (by unfold fewB; have := Hq.out; rw [List.take_length] at this; rw [this]; simp)
      go_wp2
      go_ret
      exact ⟨by rw [HF.out]; exact ret_bool (by simp), rfl⟩
theorem own_nonil9 {w : World} {base : Nat} {e : TypeId} {q : Option Addr} {n c : Nat} {xs : List Value} (h : w.ownsRow base e 1 (.slice q n c) n xs) (hn : 0 < n) : q.isSome = true := by
  obtain ⟨hl, ⟨h1, h2⟩ | ⟨g, cap, cur, h1, _⟩⟩ := h
  · omega
  · simp at h1; rw [h1.1]; rfl
theorem own_lit9 {w : World} {b base : Nat} {e : TypeId} {v : Value} (h : Blk w b (.cells #[v] e)) (hb : base ≤ b) : w.ownsRow base e 1 (.slice (some ⟨b, 0, none⟩) 1 1) 1 [v] :=
  ⟨by simp, .inr ⟨b, 1, #[v], rfl, hb, h, Nat.le_refl _, by unfold maxLen; omega, by simp, by simp⟩⟩
/-- An operation is loaded whole. -/
theorem wp_load_op {o : Oper} {a : Act} {w : World} {K : Act → World → Prop} {Q : Exit → Act → World → Prop} (x : Operand) (ho : o.op = .load 43 x) (g off : Nat) (hx : a.eval x = .pointer (some ⟨g, off, none⟩)) (s : Int) (r : List UInt8)
    (h0 : w.cell? ⟨g, off, none⟩ = some (.int .i64 s)) (h1 : w.cell? ⟨g, off + 1, none⟩ = some (.string ⟨r.toArray⟩)) (h : K (a.put o.dst (.agg #[.int .i64 s, .string ⟨r.toArray⟩])) w) : o.wp Tryd.prog a w K Q := by
  have hl : (loadCells ⟨g, off, none⟩ 2).run Tryd.prog w = .ok #[.int .i64 s, .string ⟨r.toArray⟩] w :=
    run_loadCells_list (P := Tryd.prog) w ⟨g, off, none⟩ [.int .i64 s, .string ⟨r.toArray⟩] (fun j v hv => by
      rw [addr_add]
      rcases j with _ | _ | j
      · simp at hv; subst hv; exact h0
      · simp at hv; subst hv; exact h1
      · simp at hv)
  have hlv : (loadVar 43 ⟨g, off, none⟩).run Tryd.prog w = .ok (.agg #[.int .i64 s, .string ⟨r.toArray⟩]) w := by
    have hi := opSize
    cases hq : Tryd.prog.info? 43 with
    | none => simp [hq] at hi
    | some i =>
      have hs : i.size = 2 := by simpa [hq] using hi
      have hagg : (isAgg 43).run Tryd.prog w = .ok true w := by
        unfold isAgg
        rw [Sem.run_bind, run_underlying opDesc w]
        rfl
      simp [loadVar, Sem.run_bind, hagg, Go.sizeOf, typeInfo, hq, hs, hl]
  unfold Oper.wp execOp
  simp only [ho, hx, Instr.loadAt, Instr.sureAddr, Sem.run_bind, Sem.run_pure, Result.andThen_ok, hlv]
  exact h
/-- What stands in the laws' loops behind some operations: the header's variable, the pages. -/
def StIn (w : World) (hb : Nat) (d : DS) (s : St) (v : Value) (wr : World) : Prop :=
  Ext w wr ∧ HdAt wr hb s.1 ∧ DsAt wr w.heap.size d ∧ wr.ownsRow w.heap.size 9 1 v s.2.length (s.2.map fun s : List UInt8 => Value.string ⟨s.toArray⟩)
end Go.Proofs.YtchgjopckmjmmaaDoor
/- The walk of the law RelativeSteps. -/
namespace Go.Proofs.YtchgjopckmjmmaaDoor
open Go.RowKit Dsd

theorem keepR2 {l : List Oper} {p j s g k : Nat} {f : Fact} (h : Pre.condX .any l (p, [(j, s)]) k = true ∨ ∀ v w w', RH g w w' → f v w → f v w') : Pre.KeepsP .any l [(p, [(j, s)])] (fun _ => RH g) k f := by
  intro x hx; simp at hx; subst hx; exact h
theorem gok_ret2 (g : Nat) (w0 : World) (hw : w0.heap.size ≤ g) (cs : Array Value) (l : List Oper) (v : Value) (p j s : Nat) (hm : mustB .any l j p = true) : GOk l w0 [(p, [(j, s)])] (fun _ => RH g) (fun _ _ => HbF g v cs) := by
  refine ⟨fun i w w' h => ?_, fun i j => HbF.stable _ _ _, fun p' j' i hk hp hne x a b h hx => ?_, fun p' j' hk => ?_⟩
  · obtain ⟨⟨cs0, h0⟩, c⟩ := h
    exact ⟨c.os, c.tape, c.output, by rw [c.size]; have := Blk.lt h0; omega, fun k hk => c.block k (by omega)⟩
  · simp [killB, pivB] at hk hp
    exact absurd (hp.symm.trans hk.1) hne
  · simp [killB] at hk
    obtain ⟨rfl, rfl⟩ := hk
    exact .inr hm
theorem prok_ret2 {l : List Oper} {p j s g : Nat} {w3 : World} : Pre.PrOk .any l.toArray [(p, [(j, s)])] (fun _ => RH g) (fun _ w => Ext w3 w) :=
  ⟨fun _ _ _ _ he h => Ext.trans h he, fun p' q hp hq hne => by simp [pivB] at hp hq; exact absurd (hq.symm.trans hp) hne⟩
theorem RelF.rh {R : RelRes} {g : Nat} (v : Value) (w w' : World) (c : RH g w w') (h : RelF R v w) : RelF R v w' := by
  obtain ⟨q, cc, h1, h3⟩ := h
  obtain ⟨⟨cs0, h0⟩, c⟩ := c
  exact ⟨q, cc, h1, h3.tchg (B := 0) (t := 28) (by decide) ⟨g, cs0, Nat.zero_le _, h0, c⟩⟩
theorem stepR_few (m : List (List UInt8)) (h : Hd) (d : DS) (slot : Int) (r : List UInt8) : (stepR m h d slot r).w.length ≤ 1000000 := by
  unfold stepR
  split
  · have := eraseR_few m h d slot; omega
  · have := putR_few m h d slot r (.inr trivial); omega

set_option maxRecDepth 100000 in
set_option maxHeartbeats 4000000 in
theorem RelativeSteps_any (p : Option Addr) (cap n : Nat) (L : List (Int × List UInt8)) (d : DS) (w : World) (hs : Opsl w p L) (hn : L.length = n) (hcap : n ≤ cap) (hcm : cap ≤ maxLen) (hmx : ∀ i, (L.getD i (0, [])).2.length ≤ maxLen ∧ (Lit.int .i64 (L.getD i (0, [])).1).wf = true) :
    Calls Tryd.prog 4 #[.agg #[.int .i64 d.id, .int .i64 d.org, .int .i64 d.format, .int .i64 d.length, .int .i64 d.block, .int .i64 d.keyAt, .int .i64 d.keyLength, .int .i64 d.interval, .int .i64 d.area, .int .i64 d.freeInterval, .int .i64 d.freeArea, .int .i64 d.base, .int .i64 d.altAt, .int .i64 d.altLength, .bool d.unique, .int .i64 d.cls, .string ⟨d.volume.toArray⟩, .string ⟨d.owner.toArray⟩, .int .i64 d.created, .int .i64 d.expires, .bool d.archived], .slice p n cap] w fun e w' => e = .returned (.bool true) ∧ Ext w w' := by
  have hmax := fun i => (hmx i).1
  clear hmx
  have Hsm := Lib.hid (fun w h => SmallOps_any p cap n L 40 w h hn (by have := hcm; omega) hmax)
  have Hs := Lib.hid hs
  clear hs
  cases hsh : fewB L 40
  · rw [hsh] at Hsm
    go_enter Tryd.func4, Tryd.ntmps4
    go_upto_region 1 with (fail)
    refine wp_name (fun w0 => Ext w w0) (Ext.alloc _ _) ?_
    intro w0 he0
    go_wp2_with (first
      | (go_at_call 12; refine (awake19_any _).mono ?_; rintro e w1 ⟨rfl, he1⟩)
      | (go_at_call 16; refine (Hsm.out _ (Hs.out.ext (he0.trans he1))).mono ?_; rintro e w2 ⟨rfl, rfl⟩))
    go_ret
    exact ⟨rfl, he0.trans he1⟩
  · obtain ⟨hL, hLs⟩ := fewB_at hsh
    rw [hsh] at Hsm
    have HLs := Lib.hid hLs
    have Hinv := Lib.hid (fun k h => stS_inv d k L (by omega) h)
    subst hn
    clear hLs hsh hmax
    go_enter Tryd.func4, Tryd.ntmps4
    go_upto_region 1 with (fail)
    refine wp_name (fun w0 => Ext w w0 ∧ DsAt w0 w.heap.size d) ⟨Ext.alloc _ _, Blk.new _ _⟩ ?_
    rintro w0 ⟨he0, hb2⟩
    go_upto_region 6 with (first
      | (go_at_call 12; refine (awake19_any _).mono ?_; rintro e w1 ⟨rfl, he1⟩)
      | (go_at_call 16; refine (Hsm.out _ (Hs.out.ext (he0.trans he1))).mono ?_; rintro e w2 ⟨rfl, rfl⟩)
      | (refine wpList_bld (o := ⟨some 19, _, _, _, _, _⟩) rfl 28 #[] rfl [] rfl _ hdBuilt9z ?_)
      | (refine wpList_put rfl 28 (.tmp 5) (.tmp 19) rfl _ #[.int .i64 0, .int .i64 0, .int .i64 0, .int .i64 0, .int .i64 0, .int .i64 0, .int .i64 0] rfl rfl _ _ (Blk.new1 _ _ _ (by simp)) hdSize rfl (hd_one Hd.zero) ?_; intro w4 hb4 hc4))
    refine wp_name (fun w5 => StIn w (w1.heap.size + 1) d (Hd.zero, [[]]) (.slice (some ⟨w1.heap.size, 0, none⟩) 1 1) w5 ∧ w1.heap.size + 1 < w5.heap.size) ⟨⟨(he0.trans he1).trans (hc4.ext ((Ext.alloc _ _).trans (Ext.alloc _ _)) (by simp)), hb4, hc4.blk ((Blk.alloc (Blk.alloc (hb2.ext he1) _) _)) (by have := Blk.lt (hb2.ext he1); omega), own_lit9 (hc4.blk (Blk.alloc (Blk.new w1 _) _) (by omega)) (he0.trans he1).size⟩, Blk.lt hb4⟩ ?_
    clear hb2 hb4 hc4
    rintro w5 ⟨hin, hhb⟩
    have hwb : w.heap.size < w1.heap.size + 1 := by have := (he0.trans he1).size; omega
    generalize w1.heap.size + 1 = hb at *
    generalize w1.heap.size = mb at *
    have Hin := Lib.hid hin
    clear hin he0 he1
    go_wp2_with fail
    go_loopw [6, 7] (fun v i wr => ∃ j : Nat, j ≤ L.length ∧ i = .int .i64 j ∧ StIn w hb d (stS d (L.take j)) v wr) (fun _ i _ => L.length - (intOf i).toNat)
    case atStart => exact ⟨0, Nat.zero_le _, rfl, by simpa [stS] using Hin.out⟩
    case round =>
      obtain ⟨j, hj, rfl, hin⟩ := hrel
      by_cases hlt : j < L.length
      · have hltI : (j : Int) < L.length := by omega
        have hI := Hinv.out j hj
        have HS := Lib.hid (stS_snoc d L j hlt)
        have hrl := HLs.out j
        generalize stS d (L.take j) = s at *
        obtain ⟨H, M⟩ := s
        obtain ⟨hext, hb5, hb2, hrow⟩ := hin
        simp only at hb5 hrow
        have hMs := hI.small (by omega)
        obtain ⟨hMp, hMl⟩ := hI.len
        simp only at hMs hMp hMl
        obtain ⟨qm, cm, rfl, hsq, _, _, _⟩ := own_strs_p hrow
        obtain ⟨ad, rfl⟩ := Option.isSome_iff_exists.1 (own_nonil9 hrow hMp)
        obtain ⟨b, off, rfl, hbb, hc⟩ := (Hs.out.ext hext).at j hlt
        obtain ⟨hck0, hck1⟩ := hc j hlt
        have HSt := Lib.hid (hI.step (by omega) (L.getD j (0, []))).2
        generalize L.getD j (0, []) = x at *
        obtain ⟨slot, r⟩ := x
        simp only at hrl hck0 hck1 HSt
        have HA1 := Lib.hid (fun w' (e : Ext wr w') => (step_any (some ad) cm M.length M H d slot r w' (hsq.ext e) rfl hMs (by omega)).mono (fun e w'' a => relOut_F a))
        have HA2 := Lib.hid (fun w' (e : Ext wr w') => (put_ref19 (some ad) cm M.length M H d slot r w' (hsq.ext e) rfl hMs (by omega)).mono (fun e w'' a => relOut_F a))
        have HA3 := Lib.hid (fun w' (e : Ext wr w') => (erase_ref19 (some ad) cm M.length M H d slot w' (hsq.ext e) rfl hMs).mono (fun e w'' a => relOut_F a))
        have HPu := Lib.hid (fun w' (e : Ext wr w') q c WA (hw : Wrts w' q WA) (hl : WA.length ≤ 100) => (Put_any ad q M.length cm WA.length c M WA w' (hsq.ext e) rfl hw rfl (by omega) hl).mono (show ∀ (e : Ending) (w'' : World), (Ext w' w'' ∧ ∃ v, e = .returned v ∧ w''.ownsRow w'.heap.size 9 1 v (putsP M WA).length ((putsP M WA).map fun s => .string ⟨s.toArray⟩)) → (∃ v, e = .returned v ∧ Ext w' w'' ∧ RowsF 9 w.heap.size 1 (putsP M WA).length ((putsP M WA).map fun s => .string ⟨s.toArray⟩) v w'') from fun e' w'' ⟨h1, v, h2, h3⟩ => ⟨v, h2, h1, by obtain ⟨q2, c2, rfl⟩ := own_slice h3; exact ⟨q2, c2, rfl, own_le h3 (hext.trans e).size⟩⟩))
        have HSS : Hid (stepS d (H, M) (slot, r) = if (stepR M H d slot r).e = 0 then ((stepR M H d slot r).h, putsP M (stepR M H d slot r).w) else (H, M)) := Lib.hid rfl
        have hfew := stepR_few M H d slot r
        have HRe : Hid (r = [] → eraseR M H d slot = stepR M H d slot r) := Lib.hid (fun h => by unfold stepR; rw [if_pos h])
        have HRp : Hid (r ≠ [] → putR M H d slot r = stepR M H d slot r) := Lib.hid (fun h => by unfold stepR; rw [if_neg h])
        generalize stepR M H d slot r = R at *
        generalize putR M H d slot r = RP at *
        generalize eraseR M H d slot = RE at *
        obtain ⟨G, WA, EA⟩ := R
        obtain ⟨GP, WP, EP⟩ := RP
        simp only at HSt hfew HSS
        have Hb5 := Lib.hid hb5
        have Hb2 := Lib.hid hb2
        have Hb50 := Lib.hid hb5
        have Hb20 := Lib.hid hb2
        have Hrow := Lib.hid hrow
        have Hext := Lib.hid hext
        have hhb2 : hb < wr.heap.size := Blk.lt hb5
        have Hbb0 := Lib.hid hbb
        have Hk0 := Lib.hid hck0
        have Hk1 := Lib.hid hck1
        clear hc hI hMs hMp hMl hsq hb5 hb2 hrow hext
        go_upto_region 9 with (fail)
        refine wp_region_pk 200 [(14, [(13, 8)])] (Ext.refl wr) (by kernel_rfl) (by kernel_rfl) (by kernel_rfl) (by kernel_rfl) (by kernel_rfl) (by kernel_rfl) (gok_one _ _ 14 13 8 (TChg wr.heap.size 28) (PtrF wr.heap.size (.cells #[.int .i64 G.applied, .int .i64 G.count, .int .i64 G.fin, .int .i64 G.root, .int .i64 G.height, .int .i64 G.splits, .int .i64 G.areas] 28)) (fun _ _ h => h.below) (PtrF.stable _ _) (by kernel_rfl)) ?_
        simp only [List.take_succ_cons, List.take_zero, List.take_nil, List.drop_succ_cons, List.drop_zero, List.drop_nil, List.map_cons, List.map_nil]
        repeat (first
          | (refine wpPL_step (o := ⟨some 8, _, _, _, _, _⟩) (PtrF wr.heap.size (.cells #[.int .i64 0, .int .i64 0, .int .i64 0, .int .i64 0, .int .i64 0, .int .i64 0, .int .i64 0] 28)) (PtrF.stable _ _) (by first | exact .inr (RelF.strong _ _ _ _ (by decide)) | exact .inr (WrF.strong _ _ _ _ (by decide)) | exact .inr (RowsF.strong _ _ _ _ _ _ _ _ (by decide)) | exact .inr (Fresh.strong _ _ _ _ _ _ _ (by decide)) | exact .inr (IfcF.strong (Fresh.strong _ _ _ _ _ _ _ (by decide)) _) | exact .inl (by kernel_rfl)) (by kernel_rfl) (by first | exact .inl rfl | exact .inr ⟨_, _, _, rfl, rfl, rfl⟩) ?_ ?_
             · intro a w' he hr K hK
               go_simp
               exact hK _ _ (Ext.alloc _ _) ⟨_, rfl, Blk.new _ _, he.size⟩
             simp only [setL, List.set_cons_succ, List.set_cons_zero])
          | (refine wpPL_det (o := ⟨some 30, _, _, _, _, _⟩) (v := .agg #[.int .i64 H.applied, .int .i64 H.count, .int .i64 H.fin, .int .i64 H.root, .int .i64 H.height, .int .i64 H.splits, .int .i64 H.areas]) (by kernel_rfl) (by first | exact .inl rfl | exact .inr ⟨_, _, _, rfl, rfl, rfl⟩) ?_ ?_
             · intro a w' he hr K hK
               simp [Reads, Oper.looksAt, Op.operands, factAt, Is] at hr
               exact wp_load_row 28 (.tmp 5) rfl (hb) (by go_simp) _ _ _ _ (he.blk _ _ Hb5.out) hdDesc rfl hdSize (hK _ (Ext.refl _))
             simp only [setL, List.set_cons_succ, List.set_cons_zero])
          | (refine wpPL_det (o := ⟨some 31, _, _, _, _, _⟩) (v := .agg #[.int .i64 d.id, .int .i64 d.org, .int .i64 d.format, .int .i64 d.length, .int .i64 d.block, .int .i64 d.keyAt, .int .i64 d.keyLength, .int .i64 d.interval, .int .i64 d.area, .int .i64 d.freeInterval, .int .i64 d.freeArea, .int .i64 d.base, .int .i64 d.altAt, .int .i64 d.altLength, .bool d.unique, .int .i64 d.cls, .string ⟨d.volume.toArray⟩, .string ⟨d.owner.toArray⟩, .int .i64 d.created, .int .i64 d.expires, .bool d.archived]) (by kernel_rfl) (by first | exact .inl rfl | exact .inr ⟨_, _, _, rfl, rfl, rfl⟩) ?_ ?_
             · intro a w' he hr K hK
               simp [Reads, Oper.looksAt, Op.operands, factAt, Is] at hr
               exact wp_load_row 23 (.tmp 2) rfl (w.heap.size) (by go_simp) _ _ _ _ (he.blk _ _ Hb2.out) dsDesc rfl dsSize (hK _ (Ext.refl _))
             simp only [setL, List.set_cons_succ, List.set_cons_zero])
          | (refine wpPL_det (o := ⟨some 35, _, _, _, _, _⟩) (v := .agg #[.int .i64 slot, .string ⟨r.toArray⟩]) (by kernel_rfl) (by first | exact .inl rfl | exact .inr ⟨_, _, _, rfl, rfl, rfl⟩) ?_ ?_
             · intro a w' he hr K hK
               simp [Reads, Oper.looksAt, Op.operands, factAt, Is] at hr
               exact wp_load_op (.tmp 34) rfl b (off + j * 2) (by go_simp) slot r ((he.cell _ _ Hbb0.out).trans Hk0.out) ((he.cell _ _ Hbb0.out).trans Hk1.out) (hK _ (Ext.refl _))
             simp only [setL, List.set_cons_succ, List.set_cons_zero])
          | (refine wpPL_step (o := ⟨some 36, _, _, _, _, _⟩) (RelF ⟨G, WA, EA⟩) (RelF.stable _) (by first | exact .inr (RelF.strong _ _ _ _ (by decide)) | exact .inr (WrF.strong _ _ _ _ (by decide)) | exact .inr (RowsF.strong _ _ _ _ _ _ _ _ (by decide)) | exact .inr (Fresh.strong _ _ _ _ _ _ _ (by decide)) | exact .inr (IfcF.strong (Fresh.strong _ _ _ _ _ _ _ (by decide)) _) | exact .inl (by kernel_rfl)) (by kernel_rfl) (by first | exact .inl rfl | exact .inr ⟨_, _, _, rfl, rfl, rfl⟩) ?_ ?_
             · intro a w' he hr K hK
               simp [Reads, Oper.looksAt, Op.operands, Call.operands, factAt, Is] at hr
               go_simp
               refine ((HA1.out w' he)).mono ?_
               rintro e w'' ⟨v, rfl, he', hf⟩
               exact hK _ _ he' hf
             simp only [setL, List.set_cons_succ, List.set_cons_zero])
          | (refine wpPL_det (o := ⟨some 37, _, _, _, _, _⟩) (v := .agg #[.int .i64 G.applied, .int .i64 G.count, .int .i64 G.fin, .int .i64 G.root, .int .i64 G.height, .int .i64 G.splits, .int .i64 G.areas]) (by kernel_rfl) (by first | exact .inl rfl | exact .inr ⟨_, _, _, rfl, rfl, rfl⟩) ?_ ?_
             · intro a w' he hr K hK
               obtain ⟨q1, c1, h1, h3⟩ := hr 27 (by simp [Oper.looksAt, Op.operands])
               simp at h1
               go_simp
               exact hK _ (Ext.refl _)
             simp only [setL, List.set_cons_succ, List.set_cons_zero])
          | (refine wpPL_det (o := ⟨some 39, _, _, _, _, _⟩) (v := .int .i64 EA) (by kernel_rfl) (by first | exact .inl rfl | exact .inr ⟨_, _, _, rfl, rfl, rfl⟩) ?_ ?_
             · intro a w' he hr K hK
               obtain ⟨q1, c1, h1, h3⟩ := hr 27 (by simp [Oper.looksAt, Op.operands])
               simp at h1
               go_simp
               exact hK _ (Ext.refl _)
             simp only [setL, List.set_cons_succ, List.set_cons_zero])
          | (refine wpPL_step (o := ⟨some 38, _, _, _, _, _⟩) (WrF WA) (WrF.stable _) (by first | exact .inr (RelF.strong _ _ _ _ (by decide)) | exact .inr (WrF.strong _ _ _ _ (by decide)) | exact .inr (RowsF.strong _ _ _ _ _ _ _ _ (by decide)) | exact .inr (Fresh.strong _ _ _ _ _ _ _ (by decide)) | exact .inr (IfcF.strong (Fresh.strong _ _ _ _ _ _ _ (by decide)) _) | exact .inl (by kernel_rfl)) (by kernel_rfl) (by first | exact .inl rfl | exact .inr ⟨_, _, _, rfl, rfl, rfl⟩) ?_ ?_
             · intro a w' he hr K hK
               obtain ⟨q1, c1, h1, h3⟩ := hr 27 (by simp [Oper.looksAt, Op.operands])
               simp at h1
               go_simp
               exact hK _ _ (Ext.refl _) ⟨q1, c1, rfl, h3⟩
             simp only [setL, List.set_cons_succ, List.set_cons_zero])
          | (refine wpPL_pivot (o := ⟨none, _, _, _, _, _⟩) Any Any.stable (.inr Any.strong) (by kernel_rfl) (by first | exact .inl rfl | exact .inr ⟨_, _, _, rfl, rfl, rfl⟩) ?_ ?_
             · intro a w' he hr K hK
               obtain ⟨b, h1, h2, h3⟩ := hr 8 (by simp [Oper.looksAt, Op.operands])
               have hv := hr 37 (by simp [Oper.looksAt, Op.operands])
               refine wp_store_row 28 (.tmp 8) (.tmp 37) rfl b #[.int .i64 G.applied, .int .i64 G.count, .int .i64 G.fin, .int .i64 G.root, .int .i64 G.height, .int .i64 G.splits, .int .i64 G.areas] h1 hv _ _ h2 hdSize rfl (hd_one G) ?_
               exact hK _ _ ⟨b, _, h3, h2, Chg.setRow⟩ trivial (fun x hx _ y hy => by simp at hx; subst hx; simp at hy; subst hy; exact ⟨b, h1, Blk.setRow h2, h3⟩)
             simp only [setL, List.set_cons_succ, List.set_cons_zero])
          | (refine wpPL_move _ _ (by kernel_rfl) (by first | exact .inl rfl | exact .inr ⟨_, _, _, rfl, rfl, rfl⟩) (by first | exact .inl rfl | exact .inr rfl) rfl (by first | exact Is.stable _ | exact RowsF.stable _ _ _ _ _ | exact NoneF.stable _ _ | exact Fresh.stable _ _ _ | exact RelF.stable _ | exact WrF.stable _ | exact PtrF.stable _ _ | exact PlF.stable _ _) (by first | exact .inr (Is.strong _ _ _) | exact .inr (RelF.strong _ _ _ _ (by decide)) | exact .inr (WrF.strong _ _ _ _ (by decide)) | exact .inr (RowsF.strong _ _ _ _ _ _ _ _ (by decide)) | exact .inl (by kernel_rfl)) ?_
             simp only [setL, List.set_cons_succ, List.set_cons_zero, List.getD_cons_succ, List.getD_cons_zero])
          | (apply wpPL_det (by kernel_rfl) (by first | exact .inl rfl | exact .inr ⟨_, _, _, rfl, rfl, rfl⟩)
             · intro a w' he hr K hK
               simp [Reads, Oper.looksAt, Op.operands, Call.operands, factAt, Is] at hr
               have hx := he.cell
               go_simp
               try go_bits
               try (rw [if_neg (by omega)]; go_simp)
               first
                 | exact hK _ (Ext.refl _)
             simp only [setL, List.set_cons_succ, List.set_cons_zero]))
        intro w2 he2
        simp only [killL, killIn, List.foldl_cons, List.foldl_nil, List.set_cons_succ, List.set_cons_zero]
        repeat (first | with_reducible refine rest_is _ _ _ _ ?_ | (with_reducible refine rest_fact _ _ _ _ ?_; intro _ _) | with_reducible refine rest_end _ _ ?_)
        simp only [List.reverse_cons, List.reverse_nil, List.nil_append, List.cons_append]
        rename_i x8 h8 x9 h9 x27 h27 x36 h36 x38 h38
        obtain ⟨b8, rfl, hb8, hB8⟩ := h8
        obtain ⟨q9, c9, rfl, hw9⟩ := h9
        clear h27 h36 h38
        obtain ⟨wa, rfl⟩ : ∃ wa : World, wa = w2 := ⟨_, rfl⟩
        have hea := he2
        have hb5 := Hb5.out.ext hea
        have hb2 := Hb2.out.ext hea
        have hbba : b < wa.heap.size := Nat.lt_of_lt_of_le hbb hea.size
        have hck0 := (hea.cell b _ hbb).trans Hk0.out
        have hck1 := (hea.cell b _ hbb).trans Hk1.out
        have Hb5 := Lib.hid hb5
        have Hb2 := Lib.hid hb2
        have hhb3 : hb < wa.heap.size := Blk.lt hb5
        have Hb8 := Lib.hid hb8
        have Hw9 := Lib.hid hw9
        clear he2 hbb hb5 hb2 hb8 hw9
        go_upto_region 10 with (fail)
        refine wp_region_pk 200 [(19, [(18, 11)])] (Ext.refl wa) (by kernel_rfl) (by kernel_rfl) (by kernel_rfl) (by kernel_rfl) (by kernel_rfl) (by kernel_rfl) (gok_one _ _ 19 18 11 (TChg wa.heap.size 28) (PtrF wa.heap.size (.cells #[.int .i64 GP.applied, .int .i64 GP.count, .int .i64 GP.fin, .int .i64 GP.root, .int .i64 GP.height, .int .i64 GP.splits, .int .i64 GP.areas] 28)) (fun _ _ h => h.below) (PtrF.stable _ _) (by kernel_rfl)) ?_
        simp only [List.take_succ_cons, List.take_zero, List.take_nil, List.drop_succ_cons, List.drop_zero, List.drop_nil, List.map_cons, List.map_nil]
        repeat (first
          | (refine wpPL_step (o := ⟨some 11, _, _, _, _, _⟩) (PtrF wa.heap.size (.cells #[.int .i64 0, .int .i64 0, .int .i64 0, .int .i64 0, .int .i64 0, .int .i64 0, .int .i64 0] 28)) (PtrF.stable _ _) (by first | exact .inr (RelF.strong _ _ _ _ (by decide)) | exact .inr (WrF.strong _ _ _ _ (by decide)) | exact .inr (RowsF.strong _ _ _ _ _ _ _ _ (by decide)) | exact .inr (Fresh.strong _ _ _ _ _ _ _ (by decide)) | exact .inr (IfcF.strong (Fresh.strong _ _ _ _ _ _ _ (by decide)) _) | exact .inl (by kernel_rfl)) (by kernel_rfl) (by first | exact .inl rfl | exact .inr ⟨_, _, _, rfl, rfl, rfl⟩) ?_ ?_
             · intro a w' he hr K hK
               go_simp
               exact hK _ _ (Ext.alloc _ _) ⟨_, rfl, Blk.new _ _, he.size⟩
             simp only [setL, List.set_cons_succ, List.set_cons_zero])
          | (refine wpPL_det (o := ⟨some 42, _, _, _, _, _⟩) (v := .agg #[.int .i64 H.applied, .int .i64 H.count, .int .i64 H.fin, .int .i64 H.root, .int .i64 H.height, .int .i64 H.splits, .int .i64 H.areas]) (by kernel_rfl) (by first | exact .inl rfl | exact .inr ⟨_, _, _, rfl, rfl, rfl⟩) ?_ ?_
             · intro a w' he hr K hK
               simp [Reads, Oper.looksAt, Op.operands, factAt, Is] at hr
               exact wp_load_row 28 (.tmp 5) rfl (hb) (by go_simp) _ _ _ _ (he.blk _ _ Hb5.out) hdDesc rfl hdSize (hK _ (Ext.refl _))
             simp only [setL, List.set_cons_succ, List.set_cons_zero])
          | (refine wpPL_det (o := ⟨some 43, _, _, _, _, _⟩) (v := .agg #[.int .i64 d.id, .int .i64 d.org, .int .i64 d.format, .int .i64 d.length, .int .i64 d.block, .int .i64 d.keyAt, .int .i64 d.keyLength, .int .i64 d.interval, .int .i64 d.area, .int .i64 d.freeInterval, .int .i64 d.freeArea, .int .i64 d.base, .int .i64 d.altAt, .int .i64 d.altLength, .bool d.unique, .int .i64 d.cls, .string ⟨d.volume.toArray⟩, .string ⟨d.owner.toArray⟩, .int .i64 d.created, .int .i64 d.expires, .bool d.archived]) (by kernel_rfl) (by first | exact .inl rfl | exact .inr ⟨_, _, _, rfl, rfl, rfl⟩) ?_ ?_
             · intro a w' he hr K hK
               simp [Reads, Oper.looksAt, Op.operands, factAt, Is] at hr
               exact wp_load_row 23 (.tmp 2) rfl (w.heap.size) (by go_simp) _ _ _ _ (he.blk _ _ Hb2.out) dsDesc rfl dsSize (hK _ (Ext.refl _))
             simp only [setL, List.set_cons_succ, List.set_cons_zero])
          | (refine wpPL_step (o := ⟨some 54, _, _, _, _, _⟩) (RelF ⟨GP, WP, EP⟩) (RelF.stable _) (by first | exact .inr (RelF.strong _ _ _ _ (by decide)) | exact .inr (WrF.strong _ _ _ _ (by decide)) | exact .inr (RowsF.strong _ _ _ _ _ _ _ _ (by decide)) | exact .inr (Fresh.strong _ _ _ _ _ _ _ (by decide)) | exact .inr (IfcF.strong (Fresh.strong _ _ _ _ _ _ _ (by decide)) _) | exact .inl (by kernel_rfl)) (by kernel_rfl) (by first | exact .inl rfl | exact .inr ⟨_, _, _, rfl, rfl, rfl⟩) ?_ ?_
             · intro a w' he hr K hK
               simp [Reads, Oper.looksAt, Op.operands, Call.operands, factAt, Is] at hr
               go_simp
               refine ((HA2.out w' (hea.trans he))).mono ?_
               rintro e w'' ⟨v, rfl, he', hf⟩
               exact hK _ _ he' hf
             simp only [setL, List.set_cons_succ, List.set_cons_zero])
          | (refine wpPL_det (o := ⟨some 55, _, _, _, _, _⟩) (v := .agg #[.int .i64 GP.applied, .int .i64 GP.count, .int .i64 GP.fin, .int .i64 GP.root, .int .i64 GP.height, .int .i64 GP.splits, .int .i64 GP.areas]) (by kernel_rfl) (by first | exact .inl rfl | exact .inr ⟨_, _, _, rfl, rfl, rfl⟩) ?_ ?_
             · intro a w' he hr K hK
               obtain ⟨q1, c1, h1, h3⟩ := hr 40 (by simp [Oper.looksAt, Op.operands])
               simp at h1
               go_simp
               exact hK _ (Ext.refl _)
             simp only [setL, List.set_cons_succ, List.set_cons_zero])
          | (refine wpPL_det (o := ⟨some 57, _, _, _, _, _⟩) (v := .int .i64 EP) (by kernel_rfl) (by first | exact .inl rfl | exact .inr ⟨_, _, _, rfl, rfl, rfl⟩) ?_ ?_
             · intro a w' he hr K hK
               obtain ⟨q1, c1, h1, h3⟩ := hr 40 (by simp [Oper.looksAt, Op.operands])
               simp at h1
               go_simp
               exact hK _ (Ext.refl _)
             simp only [setL, List.set_cons_succ, List.set_cons_zero])
          | (refine wpPL_step (o := ⟨some 56, _, _, _, _, _⟩) (WrF WP) (WrF.stable _) (by first | exact .inr (RelF.strong _ _ _ _ (by decide)) | exact .inr (WrF.strong _ _ _ _ (by decide)) | exact .inr (RowsF.strong _ _ _ _ _ _ _ _ (by decide)) | exact .inr (Fresh.strong _ _ _ _ _ _ _ (by decide)) | exact .inr (IfcF.strong (Fresh.strong _ _ _ _ _ _ _ (by decide)) _) | exact .inl (by kernel_rfl)) (by kernel_rfl) (by first | exact .inl rfl | exact .inr ⟨_, _, _, rfl, rfl, rfl⟩) ?_ ?_
             · intro a w' he hr K hK
               obtain ⟨q1, c1, h1, h3⟩ := hr 40 (by simp [Oper.looksAt, Op.operands])
               simp at h1
               go_simp
               exact hK _ _ (Ext.refl _) ⟨q1, c1, rfl, h3⟩
             simp only [setL, List.set_cons_succ, List.set_cons_zero])
          | (refine wpPL_pivot (o := ⟨none, _, _, _, _, _⟩) Any Any.stable (.inr Any.strong) (by kernel_rfl) (by first | exact .inl rfl | exact .inr ⟨_, _, _, rfl, rfl, rfl⟩) ?_ ?_
             · intro a w' he hr K hK
               obtain ⟨b, h1, h2, h3⟩ := hr 11 (by simp [Oper.looksAt, Op.operands])
               have hv := hr 55 (by simp [Oper.looksAt, Op.operands])
               refine wp_store_row 28 (.tmp 11) (.tmp 55) rfl b #[.int .i64 GP.applied, .int .i64 GP.count, .int .i64 GP.fin, .int .i64 GP.root, .int .i64 GP.height, .int .i64 GP.splits, .int .i64 GP.areas] h1 hv _ _ h2 hdSize rfl (hd_one GP) ?_
               exact hK _ _ ⟨b, _, h3, h2, Chg.setRow⟩ trivial (fun x hx _ y hy => by simp at hx; subst hx; simp at hy; subst hy; exact ⟨b, h1, Blk.setRow h2, h3⟩)
             simp only [setL, List.set_cons_succ, List.set_cons_zero])
          | (refine wpPL_move _ _ (by kernel_rfl) (by first | exact .inl rfl | exact .inr ⟨_, _, _, rfl, rfl, rfl⟩) (by first | exact .inl rfl | exact .inr rfl) rfl (by first | exact Is.stable _ | exact RowsF.stable _ _ _ _ _ | exact NoneF.stable _ _ | exact Fresh.stable _ _ _ | exact RelF.stable _ | exact WrF.stable _ | exact PtrF.stable _ _ | exact PlF.stable _ _) (by first | exact .inr (Is.strong _ _ _) | exact .inr (RelF.strong _ _ _ _ (by decide)) | exact .inr (WrF.strong _ _ _ _ (by decide)) | exact .inr (RowsF.strong _ _ _ _ _ _ _ _ (by decide)) | exact .inl (by kernel_rfl)) ?_
             simp only [setL, List.set_cons_succ, List.set_cons_zero, List.getD_cons_succ, List.getD_cons_zero])
          | (apply wpPL_det (by kernel_rfl) (by first | exact .inl rfl | exact .inr ⟨_, _, _, rfl, rfl, rfl⟩)
             · intro a w' he hr K hK
               simp [Reads, Oper.looksAt, Op.operands, Call.operands, factAt, Is] at hr
               have hx := he.cell
               go_simp
               try go_bits
               try (rw [if_neg (by omega)]; go_simp)
               first
                 | exact hK _ (Ext.refl _)
             simp only [setL, List.set_cons_succ, List.set_cons_zero]))
        intro w2 he2
        simp only [killL, killIn, List.foldl_cons, List.foldl_nil, List.set_cons_succ, List.set_cons_zero]
        repeat (first | with_reducible refine rest_is _ _ _ _ ?_ | (with_reducible refine rest_fact _ _ _ _ ?_; intro _ _) | with_reducible refine rest_end _ _ ?_)
        simp only [List.reverse_cons, List.reverse_nil, List.nil_append, List.cons_append]
        rename_i x11 h11 x12 h12 x40 h40 x54 h54 x56 h56
        obtain ⟨b11, rfl, hb11, hB11⟩ := h11
        obtain ⟨q12, c12, rfl, hw12⟩ := h12
        clear h40 h54 h56
        obtain ⟨wb, rfl⟩ : ∃ wb : World, wb = w2 := ⟨_, rfl⟩
        have heb := he2
        have hck0b := (heb.cell b _ hbba).trans hck0
        have hck1b := (heb.cell b _ hbba).trans hck1
        have hbbb : b < wb.heap.size := Nat.lt_of_lt_of_le hbba heb.size
        have Hb11 := Lib.hid (show Blk wb b11 (.cells #[.int .i64 GP.applied, .int .i64 GP.count, .int .i64 GP.fin, .int .i64 GP.root, .int .i64 GP.height, .int .i64 GP.splits, .int .i64 GP.areas] 28) from hb11)
        have Hw12 := Lib.hid hw12
        have hz11 : b11 < wb.heap.size := Blk.lt hb11
        clear he2 hck0 hck1 hb11 hw12
        obtain ⟨wq, hwq⟩ : ∃ wq : World, wq = wb := ⟨_, rfl⟩
        go_upto_if 63 with (fail)
        go_cut [12, 13] (fun v12 v13 wx => ∃ q c, v12 = .slice q WA.length c ∧ v13 = .int .i64 EA ∧ Ext wa wx ∧ HdAt wx b11 G ∧ Wrts wx q WA)
        case first =>
          by_cases hr : r = []
          · have hrI : (r == []) = true := by simpa using hr
            have e := HRe.out hr
            subst e
            subst hr
            go_upto_region 12 with (fail)
            have Hb5b := Lib.hid (Hb5.out.ext heb)
            have Hb2b := Lib.hid (Hb2.out.ext heb)
            have hhb4 : hb < wb.heap.size := Blk.lt Hb5b.out
            refine Pre.wp_region_pk 16 [(13, [(10, 74)])] (heb) (by kernel_rfl) (by kernel_rfl) (by kernel_rfl) (by kernel_rfl) (by kernel_rfl) (by kernel_rfl) (gok_ret2 b11 wa hB11 #[.int .i64 G.applied, .int .i64 G.count, .int .i64 G.fin, .int .i64 G.root, .int .i64 G.height, .int .i64 G.splits, .int .i64 G.areas] _ (.agg #[.int .i64 G.applied, .int .i64 G.count, .int .i64 G.fin, .int .i64 G.root, .int .i64 G.height, .int .i64 G.splits, .int .i64 G.areas]) 13 10 74 (by kernel_rfl)) (fun _ => prok_ret2 (w3 := wb)) (fun p hp => Ext.refl wb) ?_
            simp only [List.take_succ_cons, List.take_zero, List.take_nil, List.drop_succ_cons, List.drop_zero, List.drop_nil, List.map_cons, List.map_nil]
            repeat (first
              | (refine Pre.wpPL_det (o := ⟨some 66, _, _, _, _, _⟩) (v := .agg (#[.int .i64 H.applied, .int .i64 H.count, .int .i64 H.fin, .int .i64 H.root, .int .i64 H.height, .int .i64 H.splits, .int .i64 H.areas])) (fun k v => Pre.KeepsP.is _ _ _ _ k v) (by kernel_rfl) (by first | exact .inl rfl | exact .inr ⟨_, _, _, rfl, rfl, rfl⟩) ?_ ?_
                 · intro a w' he0 hp hr K hK
                   have he := hp 13 (by kernel_rfl) (by kernel_rfl)
                   simp [Reads, Oper.looksAt, Op.operands, factAt, Is] at hr
                   exact wp_load_row 28 (.tmp 5) rfl (hb) (by go_simp) _ _ _ _ (Ext.blk he _ _ Hb5b.out) hdDesc rfl hdSize (hK _ (Ext.refl _))
                 simp only [setL, List.set_cons_succ, List.set_cons_zero])
              | (refine Pre.wpPL_det (o := ⟨some 67, _, _, _, _, _⟩) (v := .agg (#[.int .i64 d.id, .int .i64 d.org, .int .i64 d.format, .int .i64 d.length, .int .i64 d.block, .int .i64 d.keyAt, .int .i64 d.keyLength, .int .i64 d.interval, .int .i64 d.area, .int .i64 d.freeInterval, .int .i64 d.freeArea, .int .i64 d.base, .int .i64 d.altAt, .int .i64 d.altLength, .bool d.unique, .int .i64 d.cls, .string ⟨d.volume.toArray⟩, .string ⟨d.owner.toArray⟩, .int .i64 d.created, .int .i64 d.expires, .bool d.archived])) (fun k v => Pre.KeepsP.is _ _ _ _ k v) (by kernel_rfl) (by first | exact .inl rfl | exact .inr ⟨_, _, _, rfl, rfl, rfl⟩) ?_ ?_
                 · intro a w' he0 hp hr K hK
                   have he := hp 13 (by kernel_rfl) (by kernel_rfl)
                   simp [Reads, Oper.looksAt, Op.operands, factAt, Is] at hr
                   exact wp_load_row 23 (.tmp 2) rfl (w.heap.size) (by go_simp) _ _ _ _ (Ext.blk he _ _ Hb2b.out) dsDesc rfl dsSize (hK _ (Ext.refl _))
                 simp only [setL, List.set_cons_succ, List.set_cons_zero])
              | (refine Pre.wpPL_step (o := ⟨some 73, _, _, _, _, _⟩) (RelF ⟨G, WA, EA⟩) (RelF.stable _) (keepR2 (.inr RelF.rh)) (by kernel_rfl) (by first | exact .inl rfl | exact .inr ⟨_, _, _, rfl, rfl, rfl⟩) ?_ ?_
                 · intro a w' he0 hp hr K hK
                   have he := hp 13 (by kernel_rfl) (by kernel_rfl)
                   simp [Reads, Oper.looksAt, Op.operands, Call.operands, factAt, Is] at hr
                   go_simp
                   refine (HA3.out w' ((hea.trans heb).trans he)).mono ?_
                   rintro e w'' ⟨v, rfl, he', hf⟩
                   exact hK _ _ he' hf
                 simp only [setL, List.set_cons_succ, List.set_cons_zero])
              | (refine Pre.wpPL_move (o := ⟨some 64, _, _, _, _, _⟩) _ _ (by kernel_rfl) (by first | exact .inl rfl | exact .inr ⟨_, _, _, rfl, rfl, rfl⟩) (.inl rfl) rfl (RelF.stable _) (keepR2 (.inr RelF.rh)) ?_
                 simp only [setL, List.set_cons_succ, List.set_cons_zero, List.getD_cons_succ, List.getD_cons_zero])
              | (refine Pre.wpPL_step (o := ⟨some 74, _, _, _, _, _⟩) (LdF b11 (.agg #[.int .i64 G.applied, .int .i64 G.count, .int .i64 G.fin, .int .i64 G.root, .int .i64 G.height, .int .i64 G.splits, .int .i64 G.areas])) (LdF.stable _ _) (keepR2 (.inl (by kernel_rfl))) (by kernel_rfl) (by first | exact .inl rfl | exact .inr ⟨_, _, _, rfl, rfl, rfl⟩) ?_ ?_
                 · intro a w' he0 hp hr K hK
                   have he := hp 13 (by kernel_rfl) (by kernel_rfl)
                   obtain ⟨q1, c1, h1, h3⟩ := hr 64 (by simp [Oper.looksAt, Op.operands])
                   simp at h1
                   go_simp
                   exact hK _ _ (Ext.refl _) ⟨rfl, _, Ext.blk he _ _ Hb11.out, rfl⟩
                 simp only [setL, List.set_cons_succ, List.set_cons_zero])
              | (refine Pre.wpPL_step (o := ⟨some 75, _, _, _, _, _⟩) (WrF WA) (WrF.stable _) (keepR2 (.inr WrF.rh)) (by kernel_rfl) (by first | exact .inl rfl | exact .inr ⟨_, _, _, rfl, rfl, rfl⟩) ?_ ?_
                 · intro a w' he0 hp hr K hK
                   obtain ⟨q1, c1, h1, h3⟩ := hr 64 (by simp [Oper.looksAt, Op.operands])
                   simp at h1
                   go_simp
                   exact hK _ _ (Ext.refl _) ⟨q1, c1, rfl, h3⟩
                 simp only [setL, List.set_cons_succ, List.set_cons_zero])
              | (refine Pre.wpPL_det (o := ⟨some 76, _, _, _, _, _⟩) (v := .int .i64 EA) (fun k v => Pre.KeepsP.is _ _ _ _ k v) (by kernel_rfl) (by first | exact .inl rfl | exact .inr ⟨_, _, _, rfl, rfl, rfl⟩) ?_ ?_
                 · intro a w' he0 hp hr K hK
                   obtain ⟨q1, c1, h1, h3⟩ := hr 64 (by simp [Oper.looksAt, Op.operands])
                   simp at h1
                   go_simp
                   exact hK _ (Ext.refl _)
                 simp only [setL, List.set_cons_succ, List.set_cons_zero])
              | (refine Pre.wpPL_pivot (o := ⟨none, _, _, _, _, _⟩) Any Any.stable (fun _ _ => .inr fun _ _ _ _ h => h) (by kernel_rfl) (by first | exact .inl rfl | exact .inr ⟨_, _, _, rfl, rfl, rfl⟩) ?_ ?_
                 · intro a w' he0 hp hr K hK
                   have h0 := hr 11 (by simp [Oper.looksAt, Op.operands])
                   obtain ⟨h1, old, hk1, hk2⟩ := hr 74 (by simp [Oper.looksAt, Op.operands])
                   refine wp_store_row 28 (.tmp 11) (.tmp 74) rfl (b11) #[.int .i64 G.applied, .int .i64 G.count, .int .i64 G.fin, .int .i64 G.root, .int .i64 G.height, .int .i64 G.splits, .int .i64 G.areas] h0 h1 _ old hk1 hdSize (by rw [hk2]; rfl) (hd_one G) ?_
                   exact hK _ _ ⟨⟨_, hk1⟩, Chg.setRow⟩ trivial (fun x hx hxi y hy => by simp at hx; subst hx; simp at hy; subst hy; exact ⟨h1, Blk.setRow hk1⟩)
                 simp only [setL, List.set_cons_succ, List.set_cons_zero])
              | (refine Pre.wpPL_move (o := ⟨some 12, _, _, _, _, _⟩) _ _ (by kernel_rfl) (by first | exact .inl rfl | exact .inr ⟨_, _, _, rfl, rfl, rfl⟩) (.inr rfl) rfl (WrF.stable _) (keepR2 (.inr WrF.rh)) ?_
                 simp only [setL, List.set_cons_succ, List.set_cons_zero, List.getD_cons_succ, List.getD_cons_zero])
              | (refine Pre.wpPL_move _ _ (by kernel_rfl) (by first | exact .inl rfl | exact .inr ⟨_, _, _, rfl, rfl, rfl⟩) (by first | exact .inl rfl | exact .inr rfl) rfl (by first | exact Is.stable _ | exact RowsF.stable _ _ _ _ _ | exact NoneF.stable _ _ | exact Fresh.stable _ _ _ | exact AppF.stable _ | exact WrF.stable _ | exact PtrF.stable _ _ | exact PlF.stable _ _) (by first | exact Pre.KeepsP.is _ _ _ _ _ _ ) ?_
                 simp only [setL, List.set_cons_succ, List.set_cons_zero, List.getD_cons_succ, List.getD_cons_zero])
              | (apply Pre.wpPL_det (fun k v => Pre.KeepsP.is _ _ _ _ k v) (by kernel_rfl) (by first | exact .inl rfl | exact .inr ⟨_, _, _, rfl, rfl, rfl⟩)
                 · intro a w' he0 hp hr K hK
                   have he := hp 13 (by kernel_rfl) (by kernel_rfl)
                   simp [Reads, Oper.looksAt, Op.operands, Call.operands, factAt, Is] at hr
                   have hx := he.cell
                   go_simp
                   try go_bits
                   try (rw [if_neg (by omega)]; go_simp)
                   first
                     | exact hK _ (Ext.refl _)
                 simp only [setL, List.set_cons_succ, List.set_cons_zero]))
            intro w2 he2
            simp only [killL, killIn, List.foldl_cons, List.foldl_nil, List.set_cons_succ, List.set_cons_zero]
            repeat (first | with_reducible refine rest_is _ _ _ _ ?_ | (with_reducible refine rest_fact _ _ _ _ ?_; intro _ _) | with_reducible refine rest_end _ _ ?_)
            simp only [List.reverse_cons, List.reverse_nil, List.nil_append, List.cons_append]
            rename_i x12 h12 x64 h64 x73 h73 x74 h74 x75 h75
            obtain ⟨hx74, hbn⟩ := h74
            obtain ⟨q', c', rfl, hw'⟩ := h12
            go_wp2_with fail
            go_meet
            exact ⟨q', c', rfl, rfl, he2, hbn, hw'⟩
          · have hrI : (r == []) = false := by simpa using hr
            have hrE : r.isEmpty = false := by simpa using hr
            have e := HRp.out hr
            simp at e
            obtain ⟨rfl, rfl, rfl⟩ := e
            go_wp2_with fail
            all_goals first
              | (go_meet
                 exact ⟨q12, c12, rfl, rfl, heb, Hb11.out, Hw12.out⟩)
              | (exfalso; first | exact absurd ‹r.isEmpty = true› (by rw [hrE]; exact Bool.false_ne_true) | exact hr ‹r = []› | exact absurd ‹(r == []) = true› (by rw [hrI]; exact Bool.false_ne_true) | contradiction)
        case rest =>
          obtain ⟨q13, c13, rfl, rfl, hecx, hb11, hw13⟩ := hcut
          obtain ⟨wz, hwz⟩ : ∃ wz : World, wz = wc := ⟨_, rfl⟩
          rw [← hwz] at hecx hb11 hw13 ⊢
          clear hwz Hb11 Hw12 hz11
          have hE : ∀ W, (Op.equalIn 10000 28 (.agg #[.int .i64 G.applied, .int .i64 G.count, .int .i64 G.fin, .int .i64 G.root, .int .i64 G.height, .int .i64 G.splits, .int .i64 G.areas]) (.agg #[.int .i64 G.applied, .int .i64 G.count, .int .i64 G.fin, .int .i64 G.root, .int .i64 G.height, .int .i64 G.splits, .int .i64 G.areas])).run Tryd.prog W = .ok true W := fun W => by rw [hd_equal]; simp
          have hGd := hdGuard
          have hb8 : HdAt wz b8 G := hecx.blk _ _ Hb8.out
          have HC := Lib.hid (sameW_same q9 q13 c9 _ c13 _ WA wz (Hw9.out.ext hecx) hw13 rfl rfl hfew)
          have HE2 := Lib.hid (hea.trans hecx)
          have Hb11 := Lib.hid hb11
          have Hw13 := Lib.hid hw13
          clear hw13 hck0b hck1b hea hecx heb
          by_cases hEA : EA = 0
          · subst hEA
            go_upto_region 16 with (first
              | (refine wpList_hd (o := ⟨some 77, _, _, _, _, _⟩) rfl (.tmp 8) rfl _ rfl G hb8 ?_) | (refine wpList_hd (o := ⟨some 78, _, _, _, _, _⟩) rfl (.tmp 11) rfl _ rfl G hb11 ?_)
              | (go_at_call 20; refine HC.out.mono ?_; rintro e w3 ⟨rfl, he3⟩))
            have HN : Hid (stepS d (H, M) (slot, r) = (G, putsP M WA)) := Lib.hid (by rw [HSS.out]; simp)
            have hl1 : WA.length ≤ 9 := HSt.out (by first | rfl | trivial)
            have HE3 := Lib.hid (HE2.out.trans he3)
            have Hb11x := Lib.hid ((show Blk w3 b11 (.cells #[.int .i64 G.applied, .int .i64 G.count, .int .i64 G.fin, .int .i64 G.root, .int .i64 G.height, .int .i64 G.splits, .int .i64 G.areas] 28) from he3.blk _ _ Hb11.out))
            have Hw13x := Lib.hid (Hw13.out.ext he3)
            have hz11 := Blk.lt Hb11x.out
            clear he3 hb8 hb11
            refine wp_region_mk 4 (Ext.refl w3) (by kernel_rfl) (by kernel_rfl) (by kernel_rfl) ?_
            simp only [List.take_succ_cons, List.take_zero, List.take_nil, List.drop_succ_cons, List.drop_zero, List.drop_nil, List.map_cons, List.map_nil]
            repeat (first
              | (refine wpML_det (o := ⟨some 93, _, _, _, _, _⟩) (v := .agg #[.int .i64 G.applied, .int .i64 G.count, .int .i64 G.fin, .int .i64 G.root, .int .i64 G.height, .int .i64 G.splits, .int .i64 G.areas]) rfl ?_ ?_
                 · intro a w' he hr K hK
                   simp [Reads, Oper.looksAt, Op.operands, factAt, Is] at hr
                   exact wp_load_row 28 (.tmp 11) rfl (b11) (by go_simp) _ _ _ _ (he.blk _ _ Hb11x.out) hdDesc rfl hdSize (hK _ (Ext.refl _))
                 simp only [setL, List.set_cons_succ, List.set_cons_zero])
              | (refine wpML_move _ _ rfl (by first | exact .inl rfl | exact .inr rfl) rfl (by first | exact Is.stable _ | exact AppF.stable _ | exact WrF.stable _ | exact PtrF.stable _ _ | exact IfcF.stable (Fresh.stable _ _ _) _ | exact PairF.stable (RowF.stable _ _ _ _) _ | exact RowF.stable _ _ _ _ | exact Fresh.stable _ _ _) ?_
                 simp only [setL, List.set_cons_succ, List.set_cons_zero, List.getD_cons_succ, List.getD_cons_zero])
              | (refine wpML_moveC _ rfl (by first | exact .inl rfl | exact .inr rfl) ?_
                 simp only [setL, List.set_cons_succ, List.set_cons_zero])
              | (apply wpML_det rfl
                 · intro a w' he hr K hK
                   simp [Reads, Oper.looksAt, Op.operands, Call.operands, factAt, Is] at hr
                   have hx := he.cell
                   go_simp
                   try go_bits
                   try (rw [if_neg (by omega)]; go_simp)
                   first
                     | exact hK _ (Ext.refl _)
                 simp only [setL, List.set_cons_succ, List.set_cons_zero])
              | (refine wpML_fact (o := ⟨some 96, _, _, _, _, _⟩) (RowsF 9 w.heap.size 1 (putsP M WA).length ((putsP M WA).map fun s => .string ⟨s.toArray⟩)) (RowsF.stable _ _ _ _ _) rfl ?_ ?_
                 · intro a w' he hr K hK
                   simp [Reads, Oper.looksAt, Op.operands, Call.operands, factAt, Is] at hr
                   go_simp
                   refine ((HPu.out w' (HE3.out.trans he) q13 c13 WA (Hw13x.out.ext he) (by omega))).mono ?_
                   rintro e w'' ⟨v, rfl, he', hf⟩
                   exact hK _ _ he' hf
                 simp only [setL, List.set_cons_succ, List.set_cons_zero])
              | (apply wpML_det rfl
                 · intro a w' he hr K hK
                   simp [Reads, Oper.looksAt, Op.operands, Call.operands, factAt, Fresh] at hr
                   obtain ⟨b, hr1, hr2⟩ := hr
                   go_simp
                   exact hK _ (Ext.refl _)
                 simp only [setL, List.set_cons_succ, List.set_cons_zero]))
            intro w2 he2
            repeat (first | with_reducible refine rest_is _ _ _ _ ?_ | (with_reducible refine rest_fact _ _ _ _ ?_; intro _ _) | with_reducible refine rest_end _ _ ?_)
            simp only [List.reverse_cons, List.reverse_nil, List.nil_append, List.cons_append]
            rename_i x96 h96
            obtain ⟨q8, c8, rfl, hown8⟩ := h96
            have hE2 := HE3.out.trans he2
            have hb9 : HdAt w2 hb H := Hb50.out.ext hE2
            have Hown8 := Lib.hid hown8
            have HE9 := Lib.hid hE2
            clear hown8 hE2 he2
            go_wp2_with (first | (refine wpList_put (o := ⟨none, _, _, _, _, _⟩) rfl 28 (.tmp 5) (.tmp 93) rfl _ #[.int .i64 G.applied, .int .i64 G.count, .int .i64 G.fin, .int .i64 G.root, .int .i64 G.height, .int .i64 G.splits, .int .i64 G.areas] rfl rfl _ _ hb9 hdSize rfl (hd_one G) ?_; intro w6 hb6 hc6))
            go_roundw
            case rel => exact ⟨j + 1, by omega, by go_num, by rw [HS.out, HN.out]; exact ⟨hc6.ext (Hext.out.trans HE9.out) (by omega), hb6, hc6.blk (Hb20.out.ext HE9.out) (by omega), own_chgT Hown8.out (by decide) hb9 hc6⟩⟩
            case measure => simp [intOf]; omega
          · have hEI : (EA == 0) = false := by simpa using hEA
            have HN : Hid (stepS d (H, M) (slot, r) = (H, M)) := Lib.hid (by rw [HSS.out, if_neg hEA])
            clear hEA
            go_wp2_with (first
              | (refine wpList_hd (o := ⟨some 77, _, _, _, _, _⟩) rfl (.tmp 8) rfl _ rfl G hb8 ?_) | (refine wpList_hd (o := ⟨some 78, _, _, _, _, _⟩) rfl (.tmp 11) rfl _ rfl G hb11 ?_)
              | (go_at_call 20; refine HC.out.mono ?_; rintro e w3 ⟨rfl, he3⟩))
            go_roundw
            case rel =>
              have hx := HE2.out.trans he3
              exact ⟨j + 1, by omega, by go_num, by rw [HS.out, HN.out]; exact ⟨Hext.out.trans hx, Hb50.out.ext hx, Hb20.out.ext hx, own_ext Hrow.out hx⟩⟩
            case measure => simp [intOf]; omega
      · have hltI : decide ((j : Int) < L.length) = false := decide_eq_false (by omega)
        go_wp2_with fail
        go_ret
        exact ⟨rfl, hin.1⟩
end Go.Proofs.YtchgjopckmjmmaaDoor
/- A slice of operations that comes in, as our walks take it. -/
namespace Go.Proofs.YtchgjopckmjmmaaDoor
open Go.ChangeShapes Go.WideShapes Go.Deep Go.RowKit Dsd

def cellInt (w : World) (a : Addr) : Int := match w.cell? a with
  | some (.int _ n) => n
  | _ => 0
theorem cellInt_of {w : World} {a : Addr} {n : Int} (h : w.cell? a = some (.int .i64 n)) : w.cell? a = some (.int .i64 (cellInt w a)) ∧ cellInt w a = n := by unfold cellInt; rw [h]; exact ⟨rfl, rfl⟩
theorem opTypes : (Tryd.prog.fieldsOf 43).toList.map (fun f => f.type) = [3, 9] := by kernel_rfl
theorem open_ops {H : Type} {enc : TypeId × Value → H} {w : World} {base : Nat} {spare : Nat → Bool} {held : Bool} {t : TypeId} {a : Option Addr} {len cap : Nat} {d : DataW H} {ps : List MemPlace}
    (ht : Tryd.prog.underlying t = some (.slice 43)) (h : DataW.Trod enc Tryd.prog w base spare held t (.slice a len cap) d ps) :
    ∃ L : List (Int × List UInt8), Opsl w a L ∧ L.length = len ∧ len ≤ cap ∧ cap ≤ maxLen ∧ ∀ i, (L.getD i (0, [])).2.length ≤ maxLen ∧ (Lit.int .i64 (L.getD i (0, [])).1).wf = true := by
  obtain ⟨fuel, hf⟩ := h
  have hfs := opTypes
  have hsz : (Tryd.prog.fieldsOf 43).size = 2 := by kernel_rfl
  rcases open_slice_fields ht opDesc (by kernel_rfl) (by kernel_rfl) hf with ⟨hcs, _⟩ | ⟨x, l, c, m, D, Pl, hcs, _, hl, hm, hmm, _, hi⟩
  · simp [Value.cells] at hcs
    obtain ⟨rfl, rfl, rfl⟩ := hcs
    exact ⟨[], .inl rfl, rfl, Nat.le_refl _, by simp, by simp; decide⟩
  · simp [Value.cells] at hcs
    obtain ⟨rfl, rfl, rfl⟩ := hcs
    have hlm : len ≤ m := by rw [hmm]; split <;> omega
    have hcell : ∀ i, i < len → (∃ u, w.cell? (x.add (i * 2)) = some (.int .i64 u) ∧ (Lit.int .i64 u).wf = true) ∧ ∃ s : ByteArray, w.cell? (x.add (i * 2 + 1)) = some (.string s) ∧ s.size ≤ maxLen := by
      intro i hil
      obtain ⟨ys, n, _, _, _, hj⟩ := hi i (by omega)
      rw [hsz] at hj
      generalize Tryd.prog.fieldsOf 43 = fs at *
      have g0 := congrArg (fun l => l[0]?) hfs
      have g1 := congrArg (fun l => l[1]?) hfs
      simp at g0 g1
      obtain ⟨f0, e0, t0⟩ := g0
      obtain ⟨f1, e1, t1⟩ := g1
      obtain ⟨v0, y0, c0, _, h0⟩ := hj 0 f0 e0
      obtain ⟨v1, y1, c1, _, h1⟩ := hj 1 f1 e1
      rw [t0] at h0
      rw [t1] at h1
      obtain ⟨b, hb, _, hwb⟩ := DataW.trod_int Tryd.underlying3 h0
      obtain ⟨s, hs, _, hw⟩ := DataW.trod_string Tryd.underlying9 h1
      simp at hb hs
      subst hb hs
      exact ⟨⟨b, c0, hwb⟩, s, c1, hw⟩
    refine ⟨(List.range len).map fun i => (cellInt w (x.add (i * 2)), cellStr w (x.add (i * 2 + 1))), ?_, by simp, hl, hm, ?_⟩
    · by_cases h0 : len = 0
      · subst h0; exact .inl (by simp)
      · obtain ⟨⟨u, c0, _⟩, _⟩ := hcell 0 (by omega)
        have hx := cell_spot c0
        simp only [Nat.zero_mul, Addr.add, if_true] at hx
        obtain ⟨b, off, sp⟩ := x
        simp only at hx
        obtain ⟨rfl, hb⟩ := hx
        refine .inr ⟨b, off, rfl, hb, fun i hil => ?_⟩
        simp only [List.length_map, List.length_range] at hil
        obtain ⟨⟨u, c0, _⟩, s, c1, _⟩ := hcell i hil
        have k0 := (cellInt_of c0).1
        have k1 := (cellStr_of c1).1
        rw [addr_add] at k0 k1
        simp only [List.getD, List.getElem?_map, List.getElem?_range hil, Option.map_some, Option.getD_some, addr_add]
        exact ⟨k0, by rw [Nat.add_assoc]; exact k1⟩
    · intro i
      by_cases hil : i < len
      · obtain ⟨⟨u, c0, hwu⟩, s, c1, hw⟩ := hcell i hil
        simp only [List.getD, List.getElem?_map, List.getElem?_range hil, Option.map_some, Option.getD_some]
        exact ⟨by rw [(cellStr_of c1).2]; exact hw, by rw [(cellInt_of c0).2]; exact hwu⟩
      · have : ((List.range len).map fun i => (cellInt w (x.add (i * 2)), cellStr w (x.add (i * 2 + 1)))).getD i (0, []) = (0, []) := by
          simp [List.getD, Nat.not_lt.1 hil]
        rw [this]
        exact ⟨by simp, by decide⟩
end Go.Proofs.YtchgjopckmjmmaaDoor
/- The statement RelativeSteps: its walk joined to the given row and card. -/
namespace Go.Proofs.YtchgjopckmjmmaaDoor.relativeSteps
open Go.ChangeShapes Go.WideShapes Go.ChangeAt Go.RowKit Dsd
open Go.ChangeMaps (open_string shut_string)
set_option maxRecDepth 100000
theorem own : ownKnob Tryd.prog.godebug = none := by kernel_rfl
theorem laidOut : laidOutB Tryd.prog = true := by kernel_rfl

/-- What the walk gives, for every argument and every world. -/
theorem contract (H : Type) (enc : TypeId × Value → H) (W : World) (base : Nat) (args : Array Value) (ds gs : List (DataW H)) (before : List MemPlace)
    (hval : ∀ (j : Nat) t v, Tryd.f4.params[j]? = some t → args[j]? = some v → Value.okWide Tryd.prog W .any base t v)
    (hW : DataW.Whole enc Tryd.prog Tryd.f4.params.toList Rows.relativeStepsSpec.vars false W args.toList ds gs before) :
    Calls Tryd.prog 4 args W fun e W' => ∃ v, e = .returned v ∧ Rows.relativeStepsSpec.post enc Tryd.prog Tryd.f4 false true false false W args v W' := by
  have hW' := hW
  obtain ⟨p, q, hA0, hV, rfl, hfz, hnd⟩ := hW
  have hA : DataW.TrodAll enc Tryd.prog W 0 (fun _ => true) true Tryd.f4.params.toList args.toList ds p := hA0
  rw [Tryd.params4] at hA hval
  obtain ⟨v0, vs0, d0, ds0, p0, q0, hargs, rfl, rfl, h0, r0⟩ := trodAll_cons hA
  obtain ⟨v1, vs1, d1, ds1, p1, q1, rfl, rfl, rfl, h1, r1⟩ := trodAll_cons r0
  obtain ⟨rfl, rfl, rfl⟩ := trodAll_nil r1
  obtain rfl : args = #[v0, v1] := by cases args; simp_all
  obtain ⟨rfl, rfl⟩ := trodVars_none hV
  have k0 := h0
  have lt0 : ∀ x ∈ p0, x.block < W.heap.size := by obtain ⟨m, hm⟩ := k0; exact DataW.trod_lt m _ _ _ hm
  obtain ⟨x0, rfl⟩ := open_ds (hval 0 23 v0 rfl rfl) h0
  obtain ⟨a1, len1, cap1, rfl⟩ := okWide_slice Tryd.underlying39 (hval 1 39 v1 rfl rfl)
  have k1 := h1
  have lt1 : ∀ x ∈ p1, x.block < W.heap.size := by obtain ⟨m, hm⟩ := k1; exact DataW.trod_lt m _ _ _ hm
  obtain ⟨L1, hs1, hl1, hc1, hm1, hw1⟩ := open_ops Tryd.underlying39 h1
  clear hA0 hval
  have walk := RelativeSteps_any a1 cap1 len1 L1 x0 W hs1 hl1 hc1 hm1 hw1
  refine walk.mono fun e W' ⟨he, bel⟩ => ?_
  subst he
  exact ⟨_, rfl, _, _, _, [], _, [], hW', trodAll_mk1 (shut_bool Tryd.underlying4 _), (trodAll_cons_mk (Below.trod laidOut (by kernel_rfl) (of_decide_eq_true (by kernel_rfl)) k0 bel lt0) (trodAll_cons_mk (Below.trod laidOut (by kernel_rfl) (of_decide_eq_true (by kernel_rfl)) k1 bel lt1) trodAll_mk0)), rfl, bel.frame _, fun h => by cases h⟩

/-- The world of the witness: its tables laid. -/
noncomputable def laidWorld (os : Os) : World := World.laidAll Tryd.prog os Rows.relativeStepsRow.laid
theorem laid_met (os : Os) : laidMet Tryd.prog Rows.relativeStepsRow.laid ((laidWorld os).forCall (fun _ _ => 0) ⟨#[], #[.agg #[.int .i64 0, .int .i64 0, .int .i64 0, .int .i64 0, .int .i64 0, .int .i64 0, .int .i64 0, .int .i64 0, .int .i64 0, .int .i64 0, .int .i64 0, .int .i64 0, .int .i64 0, .int .i64 0, .bool false, .int .i64 0, .string ⟨#[]⟩, .string ⟨#[]⟩, .int .i64 0, .int .i64 0, .bool false], .slice none 0 0], []⟩).memory :=
  laidMet_laidAll _ (by kernel_rfl) (by kernel_rfl)
theorem reads (os : Os) {H : Type} (enc : TypeId × Value → H) : ∃ places, DataW.whole enc Tryd.prog ((laidWorld os).forCall (fun _ _ => 0) ⟨#[], #[.agg #[.int .i64 0, .int .i64 0, .int .i64 0, .int .i64 0, .int .i64 0, .int .i64 0, .int .i64 0, .int .i64 0, .int .i64 0, .int .i64 0, .int .i64 0, .int .i64 0, .int .i64 0, .int .i64 0, .bool false, .int .i64 0, .string ⟨#[]⟩, .string ⟨#[]⟩, .int .i64 0, .int .i64 0, .bool false], .slice none 0 0], []⟩).memory Tryd.f4.params.toList Rows.relativeStepsSpec.vars false (#[.agg #[.int .i64 0, .int .i64 0, .int .i64 0, .int .i64 0, .int .i64 0, .int .i64 0, .int .i64 0, .int .i64 0, .int .i64 0, .int .i64 0, .int .i64 0, .int .i64 0, .int .i64 0, .int .i64 0, .bool false, .int .i64 0, .string ⟨#[]⟩, .string ⟨#[]⟩, .int .i64 0, .int .i64 0, .bool false], .slice none 0 0] : Array Value).toList 8 = some ([.agg [.lit (.int .i64 0), .lit (.int .i64 0), .lit (.int .i64 0), .lit (.int .i64 0), .lit (.int .i64 0), .lit (.int .i64 0), .lit (.int .i64 0), .lit (.int .i64 0), .lit (.int .i64 0), .lit (.int .i64 0), .lit (.int .i64 0), .lit (.int .i64 0), .lit (.int .i64 0), .lit (.int .i64 0), .lit (.bool false), .lit (.int .i64 0), .lit (.string []), .lit (.string []), .lit (.int .i64 0), .lit (.int .i64 0), .lit (.bool false)], .nil], [], places) :=
  ⟨[], by kernel_rfl⟩

theorem lifted (os : Os) (started : os.Started) (H : Type) (enc : TypeId × Value → H) (F : Stop.Interp) :
    ReturnsInHanded {} Tryd.checked os 4 .any ((OpenSpec.ofChange Rows.relativeStepsSpec).preRow enc Tryd.prog Tryd.f4 Rows.relativeStepsRow.domain false Rows.relativeStepsRow.laid) (((OpenSpec.ofChange Rows.relativeStepsSpec).at F).post enc Tryd.prog Tryd.f4 false true false false) := by
  obtain ⟨places, hx⟩ := reads os enc
  refine returnsInHanded_of_row (C := Tryd.checked) (s := OpenSpec.ofChange Rows.relativeStepsSpec) own started (by kernel_rfl) Tryd.func4
    (witness_row_at (enc := enc) (C := Tryd.checked) false (laidWorld os) #[.agg #[.int .i64 0, .int .i64 0, .int .i64 0, .int .i64 0, .int .i64 0, .int .i64 0, .int .i64 0, .int .i64 0, .int .i64 0, .int .i64 0, .int .i64 0, .int .i64 0, .int .i64 0, .int .i64 0, .bool false, .int .i64 0, .string ⟨#[]⟩, .string ⟨#[]⟩, .int .i64 0, .int .i64 0, .bool false], .slice none 0 0] (World.laidAll_os _ _ _) (by kernel_rfl) (by kernel_rfl) (by kernel_rfl)
      (OpenSpec.preRow_of_cond 8 hx (by kernel_rfl) (fun k hk => by cases hk) (by kernel_rfl) (laid_met os))) ?_
  intro W base args ds gs before hval hW _ _ _ hL _ _
  exact contract H enc W base args ds gs before hval hW

theorem said : Rows.RelativeStepsSaid :=
  OpenClaim.holds_of_cond 4 Tryd.f4 rfl rfl rfl rfl rfl rfl rfl ⟨rfl, rfl, rfl, rfl, rfl⟩ rfl rfl rfl rfl rfl (by kernel_rfl) Tryd.func4 (by kernel_rfl)
    (of_decide_eq_true (by kernel_rfl)) (by unfold Func.isWrapper; first | (rw [if_pos (by decide +kernel)]; kernel_rfl) | (rw [if_neg (by decide +kernel)]; exact ⟨rfl, rfl⟩))
    (fun os started H enc _ F => by rw [OpenClaim.pre_eq_preRow]; exact lifted os started H enc F)

theorem plain (f : FuncId) (fn : Func) (hf : Tryd.pinned.checked.prog.funcNamed Tryd.f4.name = some f) (hfn : Tryd.pinned.checked.prog.funcs[f]? = some fn) :
    false = Tryd.pinned.checked.prog.looks [] ∧ ∀ (j : Nat) t, fn.params[j]? = some t → Tryd.pinned.checked.prog.wantsStandIn t = false := by
  obtain rfl : f = 4 := Option.some.inj ((show Tryd.prog.funcNamed Tryd.f4.name = some 4 by kernel_rfl).symm.trans hf) |>.symm
  obtain rfl : fn = Tryd.f4 := (Option.some.inj (Tryd.func4.symm.trans hfn)).symm
  refine ⟨by kernel_rfl, fun j t ht => ?_⟩
  rw [Tryd.params4] at ht
  have hm : t ∈ #[23, 39] := Array.mem_of_getElem? ht
  have hall : (#[23, 39].all fun t => !Tryd.prog.wantsStandIn t) = true := by kernel_rfl
  have := (Array.all_eq_true'.1 hall) t hm
  exact (show Tryd.prog.wantsStandIn t = false by simpa using this)

/-- The statement. -/
theorem card : Rows.RelativeStepsCardSaid :=
  Claim7.holds_tied_plain_at .later [] _ _ _ _ said (fun _ h => by cases h) (by kernel_rfl) (fun _ h => by cases h) relativeSteps_row_tie rfl ⟨rfl, rfl⟩ (by kernel_rfl) rfl plain (by kernel_rfl)
end Go.Proofs.YtchgjopckmjmmaaDoor.relativeSteps
