/- The walk of the reference's Number, at a key that Slot has made. -/
import Derived.Test.YtkhlglkipeoalaaDoorX26
import Derived.Test.YtkhlglkipeoalaaDoorX33
import Derived.Test.YtkhlglkipeoalaaDoorPD
import Derived.Test.YtkhlglkipeoalaaDoorOp
import Derived.Test.YtkhlglkipeoalaaDoorOp3
import Derived.Test.YtkhlglkipeoalaaDoorCards
import Derived.Test.YtkhlglkipeoalaaDoorTie
import Derived.WalkKit
import Derived.ProofKit
import Derived.OpenShut
import Derived.ShutString
import Derived.ChangeMaps5
import Derived.Below
import Derived.Lay
import Derived.Deep.DeepHandedRow
set_option linter.unusedSimpArgs false
set_option linter.unusedVariables false
namespace Go.Proofs.YtkhlglkipeoalaaDoor
open Go.RowKit Dsd

theorem beL_at : ∀ (k n i : Nat), i < k → byt (beL k n) i = n / 256 ^ (k - 1 - i) % 256
  | 0, _, _, h => by omega
  | k + 1, n, i, h => by
    by_cases hi : i = 0
    · subst hi
      simp [beL, byt]
    · obtain ⟨j, rfl⟩ : ∃ j, i = j + 1 := ⟨i - 1, by omega⟩
      have ih := beL_at k n j (by omega)
      have e : byt (beL (k + 1) n) (j + 1) = byt (beL k n) j := by simp [beL, byt]
      rw [e, ih]
      have : k - 1 - j = k + 1 - 1 - (j + 1) := by omega
      rw [this]

set_option maxRecDepth 100000 in
set_option maxHeartbeats 1000000 in
theorem Number_slot (N : Nat) (hN : N ≤ 1099511627776) (w : World) : Calls Tryd.prog 28 #[.string ⟨(slotL N).toArray⟩] w fun e w' => e = .returned (.tuple #[.int .i64 (N : Nat), .bool true]) ∧ w = w' := by
  have hs : slotL N = beL 8 N := by unfold slotL; rw [if_neg (by omega)]; simp
  rw [hs]
  have hl := beL_len 8 N
  have hb0 : byt (beL 8 N) 0 = 0 := by rw [beL_at 8 N 0 (by omega)]; omega
  have hb1 : byt (beL 8 N) 1 = 0 := by rw [beL_at 8 N 1 (by omega)]; omega
  have HB := Lib.hid (beL_at 8 N)
  generalize beL 8 N = B at *
  have hszB : (ByteArray.mk B.toArray).size = 8 := by simp [ByteArray.size, hl]
  clear hs
  go_enter Tryd.func28, Tryd.ntmps28
  go_wp2_with fail
  go_loop [4, 5] (fun x i => ∃ k : Nat, k ≤ 8 ∧ i = .int .i64 k ∧ x = .int .i64 ((N / 256 ^ (8 - k) : Nat) : Int)) (fun _ i => 8 - (intOf i).toNat)
  case atStart => exact ⟨0, by omega, rfl, by simp; omega⟩
  case round =>
    obtain ⟨k, hk, rfl, rfl⟩ := hrel
    by_cases hk8 : k < 8
    · have hkI : (k : Int) < 8 := by omega
      have hbk := HB.out k hk8
      have hM : N / 256 ^ (8 - 1 - k) ≤ 1099511627776 := Nat.le_trans (Nat.div_le_self _ _) hN
      have hq : N / 256 ^ (8 - k) = N / 256 ^ (8 - 1 - k) / 256 := by
        rw [show 8 - k = (8 - 1 - k) + 1 by omega, Nat.pow_succ, Nat.div_div_eq_div_mul]
      have HQ : Hid (N / 256 ^ (8 - (k + 1)) = N / 256 ^ (8 - 1 - k)) := Lib.hid (by rw [show 8 - (k + 1) = 8 - 1 - k by omega])
      rw [hq]
      generalize N / 256 ^ (8 - 1 - k) = M at *
      have hklen : k < B.length := by omega
      clear hq
      go_wp2
      go_round
      case rel => exact ⟨k + 1, by omega, by go_num, by rw [HQ.out]; first | (rw [hbk]; go_num) | go_num⟩
      case measure => simp [intOf]; omega
    · have hkI : decide ((k : Int) < 8) = false := decide_eq_false (by omega)
      obtain rfl : k = 8 := by omega
      have e : N / 256 ^ (8 - 8) = N := by simp
      rw [e]
      have hNI : decide (1099511627776 < (N : Int)) = false := decide_eq_false (by omega)
      go_wp2
      go_ret2
      exact ⟨rfl, rfl⟩
end Go.Proofs.YtkhlglkipeoalaaDoor
/- Plain laws of chapter 18: a made cluster's records in their order, by Next and by Get. -/
namespace Dsd
/-- Addresses increase. -/
def Inc (l : List (Int × List UInt8)) : Prop := l.Pairwise fun x y => x.1 < y.1
theorem chunkA_inc : ∀ (L : Recs) (base : Int), (∀ r ∈ L, 1 ≤ r.length) → Inc (chunkA base L)
  | [], _, _ => List.Pairwise.nil
  | r :: L, base, h => by
    refine List.Pairwise.cons (fun y hy => ?_) (chunkA_inc L _ (fun s hs => h s (by simp [hs])))
    have := (chunkA_lt L (base + r.length) (fun s hs => h s (by simp [hs])) y hy).1
    have := h r (by simp)
    show base < y.1
    omega
theorem recsA_inc {size : Int} (h0 : 0 ≤ size) : ∀ {C : List Recs}, FitC size C → Inc (recsA size C)
  | [], _ => List.Pairwise.nil
  | L :: C, h => by
    have hC : FitC size C := fun M hM => h M (by simp [hM])
    have hL := h L (by simp)
    unfold Inc
    simp only [recsA]
    rw [List.pairwise_append]
    refine ⟨recsA_inc h0 hC, chunkA_inc L _ hL.1, fun x hx y hy => ?_⟩
    have h1 := (recsA_lt hC x hx).1
    have h2 := (chunkA_lt L _ hL.1 y hy).1
    omega
theorem find_inc {l : List (Int × List UInt8)} (h : Inc l) : ∀ (i : Nat) (hi : i < l.length), l.find? (fun x => decide (l[i].1 < x.1)) = l[i + 1]? := by
  induction l with
  | nil => intro i hi; simp at hi
  | cons x l ih =>
    intro i hi
    have hp := List.pairwise_cons.1 h
    cases i with
    | zero =>
      simp only [List.getElem_cons_zero, List.find?_cons, Int.lt_irrefl, decide_false, List.getElem?_cons_succ]
      cases l with
      | nil => rfl
      | cons y l =>
        have := hp.1 y (by simp)
        simp [List.find?_cons, this]
    | succ i =>
      have hi' : i < l.length := by simpa using hi
      have h1 := hp.1 l[i] (List.getElem_mem hi')
      simp only [List.getElem_cons_succ, List.find?_cons, List.getElem?_cons_succ]
      rw [decide_eq_false (by omega)]
      exact ih hp.2 i hi'
theorem recsA_ge {size : Int} (h0 : 0 ≤ size) : ∀ {C : List Recs}, FitC size C → ∀ x ∈ recsA size C, size ≤ x.1
  | [], _, x, hx => by simp [recsA] at hx
  | L :: C, h, x, hx => by
    have hC : FitC size C := fun M hM => h M (by simp [hM])
    simp only [recsA, List.mem_append] at hx
    rcases hx with hx | hx
    · exact recsA_ge h0 hC x hx
    · have h1 := (chunkA_lt L _ (h L (by simp)).1 x hx).1
      have h2 : 1 * size ≤ ((C.length + 1 : Nat) : Int) * size := Int.mul_le_mul_of_nonneg_right (by omega) h0
      omega
theorem chunkA_mem : ∀ (L : Recs) (base : Int) (x : Int × List UInt8), x ∈ chunkA base L → ∃ k, k < L.length ∧ x = (base + (sumLen (L.take k) : Int), L.getD k [])
  | [], _, x, h => by simp [chunkA] at h
  | r :: L, base, x, h => by
    simp only [chunkA, List.mem_cons] at h
    rcases h with rfl | h
    · exact ⟨0, by simp, by simp [sumLen]⟩
    · obtain ⟨k, hk, rfl⟩ := chunkA_mem L _ x h
      refine ⟨k + 1, by simpa using hk, ?_⟩
      simp only [List.take_succ_cons, sumLen_cons, List.getD_cons_succ, Prod.mk.injEq, and_true]
      push_cast
      omega
theorem recsA_mem {size : Int} : ∀ {C : List Recs} {x : Int × List UInt8}, x ∈ recsA size C → ∃ p k : Nat, 1 ≤ p ∧ p ≤ C.length ∧ k < (C.reverse.getD (p - 1) []).length ∧ x = ((p : Int) * size + (sumLen ((C.reverse.getD (p - 1) []).take k) : Int), (C.reverse.getD (p - 1) []).getD k [])
  | [], x, h => by simp [recsA] at h
  | L :: C, x, h => by
    simp only [recsA, List.mem_append] at h
    rcases h with h | h
    · obtain ⟨p, k, h1, h2, h3, h4⟩ := recsA_mem h
      have e : (L :: C).reverse.getD (p - 1) [] = C.reverse.getD (p - 1) [] := by
        rw [List.reverse_cons]
        simp [List.getD, List.getElem?_append_left (show p - 1 < C.reverse.length by simp; omega)]
      exact ⟨p, k, h1, by simp; omega, by rw [e]; exact h3, by rw [e]; exact h4⟩
    · obtain ⟨k, hk, rfl⟩ := chunkA_mem L _ x h
      have e : (L :: C).reverse.getD (C.length + 1 - 1) [] = L := by
        rw [List.reverse_cons]
        simp [List.getD]
      exact ⟨C.length + 1, k, by omega, by simp, by rw [e]; exact hk, by rw [e]⟩
theorem idxFrom_at : ∀ (L : Recs) (i a k : Nat), k < L.length → (∀ r ∈ L, 1 ≤ r.length) → idxFrom L i a (a + sumLen (L.take k)) = some (i + k)
  | [], _, _, _, h, _ => by simp at h
  | r :: L, i, a, 0, _, _ => by simp [idxFrom, sumLen]
  | r :: L, i, a, k + 1, h, hr => by
    have h1 := hr r (by simp)
    have := idxFrom_at L (i + 1) (a + r.length) k (by simpa using h) (fun s hs => hr s (by simp [hs]))
    rw [idxFrom, List.take_succ_cons, sumLen_cons, if_neg (by omega), ← Nat.add_assoc, this]
    congr 1
    omega
/-- The scan of a made cluster from a page on. -/
theorem scan_from {size : Int} (h0 : 1 ≤ size) : ∀ (C : List Recs), GoodC size C → FitC size C → ∀ p : Int, 1 ≤ p → ∃ pre, recsA size C = pre ++ (scanOf (memOf size C) size C.length p).1 ∧ (∀ x ∈ pre, x.1 < p * size) ∧ (scanOf (memOf size C) size C.length p).2 = 0 := by
  intro C hg hf p hp
  by_cases hple : p ≤ C.length
  · -- all k pages before p
    have key : ∀ k : Nat, (k : Int) < p → ∃ pre, recsA size C = pre ++ (scanOf (memOf size C) size C.length (k + 1)).1 ∧ (∀ x ∈ pre, x.1 < ((k : Int) + 1) * size) ∧ (scanOf (memOf size C) size C.length (k + 1)).2 = 0 := by
      intro k
      induction k with
      | zero =>
        intro _
        have hs : scanOf (memOf size C) size C.length 1 = (recsA size C, 0) := by
          unfold scanOf
          rw [show ((C.length : Int) + 1 - 1).toNat = C.length by omega]
          exact scan_made C hg
        exact ⟨[], by simp [hs], by simp, by simp [hs]⟩
      | succ k ih =>
        intro hk
        obtain ⟨pre, h1, h2, h3⟩ := ih (by omega)
        have hl : loadOf (memOf size C) size ((k : Int) + 1) = (C.reverse.getD k [], 0) := by
          have := load_at (p := k + 1) hg (by omega) (by omega)
          rw [show ((k : Int) + 1) = ((k + 1 : Nat) : Int) by push_cast; rfl, this]
          simp
        have hsc := scan_ok (m := memOf size C) (size := size) (fin := C.length) (p := (k : Int) + 1) (by omega) (by rw [hl])
        rw [hl] at hsc
        simp only at hsc
        rw [hsc] at h1 h3
        have hmem : C.reverse.getD k [] ∈ C := by
          have hkl : k < C.reverse.length := by simp; omega
          have : C.reverse.getD k [] = C.reverse[k]'hkl := by rw [List.getD, List.getElem?_eq_getElem hkl]; rfl
          rw [this]
          exact List.mem_reverse.1 (List.getElem_mem hkl)
        have hfm := hf _ hmem
        refine ⟨pre ++ chunkA (((k : Int) + 1) * size) (C.reverse.getD k []), ?_, ?_, ?_⟩
        · rw [h1]
          simp only [List.append_assoc]
          push_cast
          rfl
        · intro x hx
          rw [List.mem_append] at hx
          push_cast
          have e : ((k : Int) + 1 + 1) * size = ((k : Int) + 1) * size + size := by rw [Int.add_mul ((k : Int) + 1) 1 size]; omega
          rcases hx with hx | hx
          · have := h2 x hx; omega
          · have := (chunkA_lt _ _ hfm.1 x hx).2; omega
        · push_cast; exact h3
    have := key (p - 1).toNat (by omega)
    rw [show (((p - 1).toNat : Int) + 1) = p by omega] at this
    exact this
  · have hs := scan_end (m := memOf size C) (size := size) (fin := C.length) (p := p) (by omega)
    refine ⟨recsA size C, by rw [hs]; simp, fun x hx => ?_, by rw [hs]⟩
    have h1 := (recsA_lt hf x hx).1
    have h2 : ((C.length + 1 : Nat) : Int) * size ≤ p * size := Int.mul_le_mul_of_nonneg_right (by omega) (by omega)
    omega
end Dsd
namespace Go.Proofs.YtkhlglkipeoalaaDoor
open Go.RowKit Dsd
/-- What Get answers over a made cluster. -/
theorem get_made {d : DS} {C : List Recs} (h : Made d C) (hv : validB d = true) (ho : d.org = 1) (hc : (C.map List.length).sum ≤ 1000) {x : Int × List UInt8} (hx : x ∈ recsA d.interval C) :
    getOf (memOf d.interval C) (hdOf C) d x.1 = (x.2, 0) := by
  have hcl := count_len C (fun L hL => (h.good L hL).1)
  obtain ⟨_, _, v3, _, _, _⟩ := valid_spec hv
  have hi0 : 128 ≤ d.interval := by rcases isSize_spec v3 with h | h | h <;> omega
  have e1 : (hdOf C).count = ((C.map List.length).sum : Int) := rfl
  have e2 : (hdOf C).fin = (C.length : Int) := rfl
  have hp : plainB (hdOf C) = true := by
    unfold plainB
    rw [e1, e2]
    simp only [Bool.and_eq_true, decide_eq_true_eq]
    omega
  have hd : doorOf (hdOf C) d 1 = 0 := by unfold doorOf; rw [hv, hp]; simp [ho]
  obtain ⟨p, k, h1, h2, h3, rfl⟩ := recsA_mem hx
  have hl := load_at (p := p) h.good h1 h2
  generalize hL : C.reverse.getD (p - 1) [] = L at *
  have hkl : p - 1 < C.reverse.length := by simp; omega
  have hm : L ∈ C := by
    rw [← hL, List.getD, List.getElem?_eq_getElem hkl]
    exact List.mem_reverse.1 (List.getElem_mem hkl)
  obtain ⟨f1, f2⟩ := h.fit L hm
  have hs := sumLen_takeLe L (k + 1)
  have hg1 : 1 ≤ (L.getD k []).length := f1 _ (by simp [List.getD, h3])
  rw [sumLen_take1 L k h3] at hs
  have hdiv : ((p : Int) * d.interval + (sumLen (L.take k) : Int)) / d.interval = p := by
    rw [Int.add_comm, Int.add_mul_ediv_right _ _ (by omega), Int.ediv_eq_zero_of_lt (by omega) (by omega)]; simp
  have hmod : ((p : Int) * d.interval + (sumLen (L.take k) : Int)) % d.interval = (sumLen (L.take k) : Int) := by
    rw [Int.add_comm, Int.add_mul_emod_self_right, Int.emod_eq_of_lt (by omega) (by omega)]
  have hge : ¬ ((p : Int) * d.interval + (sumLen (L.take k) : Int) < d.interval) := by
    have : 1 * d.interval ≤ (p : Int) * d.interval := Int.mul_le_mul_of_nonneg_right (by omega) (by omega)
    omega
  have hidx : idxOf L (sumLen (L.take k)) = some k := by
    have := idxFrom_at L 0 0 k h3 f1
    simpa [idxOf] using this
  have hf : findOf (memOf d.interval C) d.interval (hdOf C).fin ((p : Int) * d.interval + (sumLen (L.take k) : Int)) = (L, k, 0) := by
    have := findOf_some (m := memOf d.interval C) (size := d.interval) (fin := (hdOf C).fin) (a := (p : Int) * d.interval + (sumLen (L.take k) : Int)) (i := k) (by rw [hdiv, e2]; omega) (by rw [hdiv, hl]) (by rw [hdiv, hl, hmod]; simpa using hidx)
    rw [this, hdiv, hl]
  unfold getOf
  rw [hd, if_neg (by simp), hf]
  simp
end Go.Proofs.YtkhlglkipeoalaaDoor
/- Plain laws of chapter 18: a record of a made cluster is replaced. -/
namespace Dsd
theorem SameL.set {L : Recs} {k : Nat} {r : List UInt8} (hk : k < L.length) (hr : r.length = (L.getD k []).length) : SameL (L.set k r) L := by
  unfold SameL
  rw [List.map_set, hr]
  apply List.ext_getElem?
  intro i
  rw [List.getElem?_set]
  split
  · subst_vars; simp [hk, List.getD]
  · rfl
theorem SameL.fit {L M : Recs} (h : SameL L M) (h1 : ∀ r ∈ M, 1 ≤ r.length) : ∀ r ∈ L, 1 ≤ r.length := fun r hr => by
  have : r.length ∈ M.map List.length := h ▸ List.mem_map_of_mem hr
  obtain ⟨s, hs, e⟩ := List.mem_map.1 this
  have := h1 s hs
  omega
theorem chunkA_set : ∀ (L : Recs) (base : Int) (k : Nat) (r : List UInt8), k < L.length → r.length = (L.getD k []).length → chunkA base (L.set k r) = (chunkA base L).set k (base + (sumLen (L.take k) : Int), r)
  | [], _, _, _, h, _ => by simp at h
  | x :: L, base, 0, r, _, hr => by
    have : r.length = x.length := hr
    simp [chunkA, sumLen, this]
  | x :: L, base, k + 1, r, h, hr => by
    have ih := chunkA_set L (base + x.length) k r (by simpa using h) (by simpa using hr)
    simp only [List.set_cons_succ, chunkA, ih, List.take_succ_cons, sumLen_cons]
    rw [show base + ((x.length + sumLen (L.take k) : Nat) : Int) = base + (x.length : Int) + (sumLen (L.take k) : Int) by omega]
theorem chunkA_at : ∀ (L : Recs) (base : Int) (k : Nat), k < L.length → (chunkA base L).getD k (0, []) = (base + (sumLen (L.take k) : Int), L.getD k [])
  | [], _, _, h => by simp at h
  | x :: L, base, 0, _ => by simp [chunkA, sumLen]
  | x :: L, base, k + 1, h => by
    have ih := chunkA_at L (base + x.length) k (by simpa using h)
    simp only [chunkA, List.getD_cons_succ, ih, List.take_succ_cons, sumLen_cons]
    rw [show base + ((x.length + sumLen (L.take k) : Nat) : Int) = base + (x.length : Int) + (sumLen (L.take k) : Int) by omega]
/-- The i-th record of a cluster is another one. -/
def setC (r : List UInt8) : List Recs → Nat → List Recs
  | [], _ => []
  | L :: C, i => if i < (C.map List.length).sum then L :: setC r C i else L.set (i - (C.map List.length).sum) r :: C
theorem setC_len (r : List UInt8) : ∀ (C : List Recs) (i : Nat), (setC r C i).map List.length = C.map List.length
  | [], _ => rfl
  | L :: C, i => by
    rw [setC]; split
    · simp [setC_len r C i]
    · simp
theorem setC_len' (r : List UInt8) (C : List Recs) (i : Nat) : (setC r C i).length = C.length := by
  have := congrArg List.length (setC_len r C i); simpa using this
theorem setC_same {size : Int} (r : List UInt8) : ∀ (C : List Recs) (i : Nat), i < (recsA size C).length → r.length = ((recsA size C).getD i (0, [])).2.length → ∀ M ∈ setC r C i, ∃ N ∈ C, SameL M N
  | [], _, h, _, _, _ => by simp [recsA] at h
  | L :: C, i, h, hr, M, hM => by
    have hl := recsA_len size C
    rw [setC] at hM
    simp only [recsA] at h hr
    split at hM
    · rename_i hi
      rw [List.mem_cons] at hM
      rcases hM with rfl | hM
      · exact ⟨M, by simp, rfl⟩
      · have hr' : r.length = ((recsA size C).getD i (0, [])).2.length := by
          rw [hr, List.getD, List.getD, List.getElem?_append_left (by omega)]
        obtain ⟨N, hN, h1⟩ := setC_same r C i (by omega) hr' M hM
        exact ⟨N, by simp [hN], h1⟩
    · rename_i hi
      rw [List.mem_cons] at hM
      rcases hM with rfl | hM
      · rw [List.length_append, chunkA_len] at h
        have hk : i - (C.map List.length).sum < L.length := by omega
        refine ⟨L, by simp, SameL.set hk ?_⟩
        rw [hr, List.getD, List.getElem?_append_right (by omega), hl]
        have := chunkA_at L (((C.length + 1 : Nat) : Int) * size) _ hk
        rw [List.getD] at this
        rw [this]
      · exact ⟨M, by simp [hM], rfl⟩
theorem setC_made {d : DS} {C : List Recs} {r : List UInt8} {i : Nat} (h : Made d C) (hi : i < (recsA d.interval C).length) (hr : r.length = ((recsA d.interval C).getD i (0, [])).2.length) : Made d (setC r C i) := by
  have hs := setC_same (size := d.interval) r C i hi hr
  refine ⟨fun M hM => ?_, fun M hM => ?_⟩
  · obtain ⟨N, hN, e⟩ := hs M hM
    obtain ⟨g1, g2⟩ := h.good N hN
    refine ⟨fun h0 => g1 ?_, by rw [fits_same e]; exact g2⟩
    subst h0
    have := congrArg List.length e
    simp at this
    exact List.eq_nil_of_length_eq_zero this.symm
  · obtain ⟨N, hN, e⟩ := hs M hM
    obtain ⟨g1, g2⟩ := h.fit N hN
    exact ⟨e.fit g1, by rw [e.sum]; exact g2⟩
/-- Where the i-th record lies, and what its page and the records are behind the change. -/
theorem setC_at (size : Int) (r : List UInt8) : ∀ (C : List Recs) (i : Nat), i < (recsA size C).length → r.length = ((recsA size C).getD i (0, [])).2.length →
    ∃ p k : Nat, 1 ≤ p ∧ p ≤ C.length ∧ k < (C.reverse.getD (p - 1) []).length ∧ (recsA size C).getD i (0, []) = ((p : Int) * size + (sumLen ((C.reverse.getD (p - 1) []).take k) : Int), (C.reverse.getD (p - 1) []).getD k [])
      ∧ memOf size (setC r C i) = (memOf size C).set p (encStr size ((C.reverse.getD (p - 1) []).set k r)) ∧ recsA size (setC r C i) = (recsA size C).set i (((recsA size C).getD i (0, [])).1, r)
  | [], _, h, _ => by simp [recsA] at h
  | L :: C, i, h, hr => by
    have hl := recsA_len size C
    have hm : ∀ (M : Recs) X, memOf size (M :: X) = memOf size X ++ [encStr size M] := fun M X => by simp [memOf]
    have hml := length_memOf size C
    rw [setC]
    simp only [recsA] at h hr ⊢
    rw [List.length_append, chunkA_len] at h
    split
    · rename_i hi
      have e0 : (recsA size C ++ chunkA (((C.length + 1 : Nat) : Int) * size) L).getD i (0, []) = (recsA size C).getD i (0, []) := by
        rw [List.getD, List.getD, List.getElem?_append_left (by omega)]
      rw [e0] at hr
      obtain ⟨p, k, h1, h2, h3, h4, h5, h6⟩ := setC_at size r C i (by omega) hr
      have er : (L :: C).reverse.getD (p - 1) [] = C.reverse.getD (p - 1) [] := by
        rw [List.reverse_cons, List.getD, List.getD, List.getElem?_append_left (by simp; omega)]
      refine ⟨p, k, h1, by simp; omega, by rw [er]; exact h3, by rw [e0, er]; exact h4, ?_, ?_⟩
      · rw [er, hm, hm, h5, List.set_append_left _ _ (by omega)]
      · rw [e0, recsA, h6, setC_len', List.set_append_left _ _ (by omega)]
    · rename_i hi
      have hk : i - (C.map List.length).sum < L.length := by omega
      have e0 : (recsA size C ++ chunkA (((C.length + 1 : Nat) : Int) * size) L).getD i (0, []) = (((C.length + 1 : Nat) : Int) * size + (sumLen (L.take (i - (C.map List.length).sum)) : Int), L.getD (i - (C.map List.length).sum) []) := by
        rw [List.getD, List.getElem?_append_right (by omega), hl]
        have := chunkA_at L (((C.length + 1 : Nat) : Int) * size) _ hk
        rw [List.getD] at this
        exact this
      rw [e0] at hr ⊢
      have er : (L :: C).reverse.getD (C.length + 1 - 1) [] = L := by
        rw [List.reverse_cons, List.getD, List.getElem?_append_right (by simp)]
        simp
      refine ⟨C.length + 1, i - (C.map List.length).sum, by omega, by simp, by rw [er]; exact hk, by rw [er], ?_, ?_⟩
      · rw [er, hm, hm, List.set_append_right _ _ (by omega), hml]
        simp
      · rw [recsA, chunkA_set L _ _ r hk hr, List.set_append_right _ _ (by omega), hl]
end Dsd
namespace Go.Proofs.YtkhlglkipeoalaaDoor
open Go.RowKit Dsd
theorem find_made {d : DS} {C : List Recs} (h : Made d C) (hv : validB d = true) (hc : (C.map List.length).sum ≤ 1000) {p k : Nat} (h1 : 1 ≤ p) (h2 : p ≤ C.length) (h3 : k < (C.reverse.getD (p - 1) []).length) :
    findOf (memOf d.interval C) d.interval (hdOf C).fin ((p : Int) * d.interval + (sumLen ((C.reverse.getD (p - 1) []).take k) : Int)) = (C.reverse.getD (p - 1) [], k, 0) ∧ ((p : Int) * d.interval + (sumLen ((C.reverse.getD (p - 1) []).take k) : Int)) / d.interval = p := by
  obtain ⟨_, _, v3, _, _, _⟩ := valid_spec hv
  have hi0 : 128 ≤ d.interval := by rcases isSize_spec v3 with h | h | h <;> omega
  have e2 : (hdOf C).fin = (C.length : Int) := rfl
  have hl := load_at (p := p) h.good h1 h2
  generalize hL : C.reverse.getD (p - 1) [] = L at *
  have hkl : p - 1 < C.reverse.length := by simp; omega
  have hm : L ∈ C := by
    rw [← hL, List.getD, List.getElem?_eq_getElem hkl]
    exact List.mem_reverse.1 (List.getElem_mem hkl)
  obtain ⟨f1, f2⟩ := h.fit L hm
  have hs := sumLen_takeLe L (k + 1)
  have hg1 : 1 ≤ (L.getD k []).length := f1 _ (by simp [List.getD, h3])
  rw [sumLen_take1 L k h3] at hs
  have hdiv : ((p : Int) * d.interval + (sumLen (L.take k) : Int)) / d.interval = p := by
    rw [Int.add_comm, Int.add_mul_ediv_right _ _ (by omega), Int.ediv_eq_zero_of_lt (by omega) (by omega)]; simp
  have hmod : ((p : Int) * d.interval + (sumLen (L.take k) : Int)) % d.interval = (sumLen (L.take k) : Int) := by
    rw [Int.add_comm, Int.add_mul_emod_self_right, Int.emod_eq_of_lt (by omega) (by omega)]
  have hge : ¬ ((p : Int) * d.interval + (sumLen (L.take k) : Int) < d.interval) := by
    have : 1 * d.interval ≤ (p : Int) * d.interval := Int.mul_le_mul_of_nonneg_right (by omega) (by omega)
    omega
  have hidx : idxOf L (sumLen (L.take k)) = some k := by
    have := idxFrom_at L 0 0 k h3 f1
    simpa [idxOf] using this
  refine ⟨?_, hdiv⟩
  have := findOf_some (m := memOf d.interval C) (size := d.interval) (fin := (hdOf C).fin) (a := (p : Int) * d.interval + (sumLen (L.take k) : Int)) (i := k) (by rw [hdiv, e2]; omega) (by rw [hdiv, hl]) (by rw [hdiv, hl, hmod]; simpa using hidx)
  rw [this, hdiv, hl]
theorem built_len (d : DS) : ∀ (k : Nat) (rs : Recs), k ≤ rs.length → ∀ x ∈ recsA d.interval (builtC d (rs.take k)), (x.2.length : Int) ≤ d.length
  | 0, rs, _, x, hx => by simp [builtC, recsA] at hx
  | k + 1, rs, hk, x, hx => by
    have ih := built_len d k rs (by omega)
    rw [builtC_snoc d rs k (by omega)] at hx
    unfold stepC at hx
    split at hx
    · rename_i hr
      rw [recsA_put, List.mem_append] at hx
      rcases hx with hx | hx
      · exact ih x hx
      · simp at hx
        subst hx
        exact hr.2
    · exact ih x hx
theorem puts_set {m : Recs} {p : Nat} {s : List UInt8} (hp : p < m.length) (hm : m.length ≤ 1000) : putsP m [((p : Int), s)] = m.set p s := by
  have e0 : ∀ (m : Recs) x, putsP m [x] = putP m x := fun _ _ => rfl
  have hg : growP m (p : Int) = m := by
    unfold growP
    rw [if_pos (by omega)]
    have : ((p : Int) + 1 - (m.length : Int)).toNat = 0 := by omega
    rw [this]; simp
  rw [e0]
  unfold putP
  rw [hg, if_pos (by simp only; omega)]
  simp
/-- What Replace answers over a made cluster. -/
theorem replace_made {d : DS} {C : List Recs} (h : Made d C) (hv : validB d = true) (ho : d.org = 1) (hc : (C.map List.length).sum ≤ 40) (hlen : ∀ x ∈ recsA d.interval C, (x.2.length : Int) ≤ d.length) (i : Nat) (hi : i < (recsA d.interval C).length) (r : List UInt8) :
    (r.length ≠ ((recsA d.interval C).getD i (0, [])).2.length → replaceOf (memOf d.interval C) (hdOf C) d ((recsA d.interval C).getD i (0, [])).1 r = ([], 2))
    ∧ (r.length = ((recsA d.interval C).getD i (0, [])).2.length → ∃ W, replaceOf (memOf d.interval C) (hdOf C) d ((recsA d.interval C).getD i (0, [])).1 r = (W, 0) ∧ W.length = 1 ∧ putsP (memOf d.interval C) W = memOf d.interval (setC r C i)) := by
  have hcl := count_len C (fun L hL => (h.good L hL).1)
  have e1 : (hdOf C).count = ((C.map List.length).sum : Int) := rfl
  have e2 : (hdOf C).fin = (C.length : Int) := rfl
  have hp : plainB (hdOf C) = true := by
    unfold plainB
    rw [e1, e2]
    simp only [Bool.and_eq_true, decide_eq_true_eq]
    omega
  have hd : doorOf (hdOf C) d 1 = 0 := by unfold doorOf; rw [hv, hp]; simp [ho]
  have hmem : (recsA d.interval C).getD i (0, []) ∈ recsA d.interval C := by
    rw [List.getD, List.getElem?_eq_getElem hi]; exact List.getElem_mem hi
  constructor
  · intro hne
    obtain ⟨p, k, h1, h2, h3, hx⟩ := recsA_mem hmem
    rw [hx] at hne ⊢
    obtain ⟨hf, _⟩ := find_made h hv (by omega) h1 h2 h3
    unfold replaceOf
    rw [hd, if_neg (by simp), hf]
    split
    · rfl
    · rw [if_neg (by simp), if_pos (fun e => hne e.symm)]
  · intro heq
    have hl1 := hlen _ hmem
    obtain ⟨p, k, h1, h2, h3, hx, hM, _⟩ := setC_at d.interval r C i hi heq
    rw [hx] at heq hl1 ⊢
    obtain ⟨hf, hdv⟩ := find_made h hv (by omega) h1 h2 h3
    have hkl : p - 1 < C.reverse.length := by simp; omega
    have hm : C.reverse.getD (p - 1) [] ∈ C := by
      rw [List.getD, List.getElem?_eq_getElem hkl]
      exact List.mem_reverse.1 (List.getElem_mem hkl)
    have hg1 : 1 ≤ ((C.reverse.getD (p - 1) []).getD k []).length := (h.fit _ hm).1 _ (by
      generalize C.reverse.getD (p - 1) [] = L at *
      simp [List.getD, h3])
    refine ⟨[((p : Int), encStr d.interval ((C.reverse.getD (p - 1) []).set k r))], ?_, rfl, ?_⟩
    · simp only at heq hl1
      generalize C.reverse.getD (p - 1) [] = L at *
      have g1 : ¬ (r.length < 1 ∨ d.length < (r.length : Int)) := by omega
      have g2 : ¬ ((L.getD k []).length ≠ r.length) := fun h => h heq.symm
      unfold replaceOf
      rw [hd, if_neg (by simp), hf, hdv, if_neg g1]
      simp only [ne_eq, not_true_eq_false, if_false]
      rw [if_neg g2]
    · rw [hM, puts_set (by rw [length_memOf]; omega) (by rw [length_memOf]; omega)]
end Go.Proofs.YtkhlglkipeoalaaDoor
/- The walk of the law EntryseqReplaces. -/
namespace Go.Proofs.YtkhlglkipeoalaaDoor
open Go.RowKit Dsd
theorem prCells_set (s : List UInt8) : ∀ (L : List (List UInt8 × List UInt8)) (i : Nat), i < L.length → prCells (L.set i ((L.getD i ([], [])).1, s)) = (prCells L).set (i * 2 + 1) (.string ⟨s.toArray⟩)
  | [], _, h => by simp at h
  | x :: L, 0, _ => by simp [prCells]
  | x :: L, i + 1, h => by
    have ih := prCells_set s L i (by simpa using h)
    have e : ∀ (y : List UInt8 × List UInt8) M, prCells (y :: M) = .string ⟨y.1.toArray⟩ :: .string ⟨y.2.toArray⟩ :: prCells M := fun y M => by simp [prCells]
    rw [List.set_cons_succ, e, e, List.getD_cons_succ, ih, show (i + 1) * 2 + 1 = (i * 2 + 1) + 1 + 1 by omega, List.set_cons_succ, List.set_cons_succ]
theorem own_setPr {w : World} {base g n cap i : Nat} {L : List (List UInt8 × List UInt8)} {s : List UInt8} (h : w.ownsRow base 61 2 (.slice (some ⟨g, 0, none⟩) n cap) n (prCells L)) (hi : i < L.length) :
    (w.setCell ⟨g, i * 2 + 1, none⟩ (.string ⟨s.toArray⟩)).ownsRow base 61 2 (.slice (some ⟨g, 0, none⟩) n cap) n (prCells (L.set i ((L.getD i ([], [])).1, s))) ∧ (∃ cs, Blk w g (.cells cs 61)) ∧ base ≤ g := by
  obtain ⟨hl, ⟨h0, _⟩ | ⟨g', cap', cur, e, hb, hg, h1, h2, h3, h4⟩⟩ := h
  · cases h0
  · cases e
    have hgb : Blk w g (.cells cur 61) := hg
    refine ⟨⟨by rw [prCells_len] at hl ⊢; simpa using hl, .inr ⟨g, cap, cur.setIfInBounds (i * 2 + 1) (.string ⟨s.toArray⟩), rfl, hb, Blk.setCell hgb, h1, h2, by simp [h3], ?_⟩⟩, ⟨cur, hgb⟩, hb⟩
    rw [Array.toList_setIfInBounds, List.take_set, h4, prCells_set s L i hi]
/-- What Replace does to the i-th record of a made cluster, and what All answers behind it. -/
structure RepS (m : Recs) (H : Hd) (d : DS) (R : List (Int × List UInt8)) (r : List UInt8) (i : Nat) : Prop where
  ne : r.length ≠ (R.getD i (0, [])).2.length → replaceOf m H d (R.getD i (0, [])).1 r = ([], 2)
  eq : r.length = (R.getD i (0, [])).2.length → ∃ W m', replaceOf m H d (R.getD i (0, [])).1 r = (W, 0) ∧ W.length = 1 ∧ putsP m W = m' ∧ Small m' ∧ m'.length ≤ 1000 ∧ allOf m' H d = ((R.map pairA).set i (slotL (R.getD i (0, [])).1, r), 0)
  num : ∃ N : Nat, (R.getD i (0, [])).1 = (N : Int) ∧ N ≤ 100000
theorem repS_made {d : DS} {C : List Recs} (h : Made d C) (hv : validB d = true) (ho : d.org = 1) (hc : (C.map List.length).sum ≤ 40) (hlen : ∀ x ∈ recsA d.interval C, (x.2.length : Int) ≤ d.length) (r : List UInt8) (i : Nat) (hi : i < (recsA d.interval C).length) : RepS (memOf d.interval C) (hdOf C) d (recsA d.interval C) r i := by
  obtain ⟨_, _, v3, _, _, _⟩ := valid_spec hv
  have hi0 : 128 ≤ d.interval ∧ d.interval ≤ 512 := by rcases isSize_spec v3 with h | h | h <;> omega
  have hcl := count_len C (fun L hL => (h.good L hL).1)
  obtain ⟨h1, h2⟩ := replace_made h hv ho hc hlen i hi r
  refine ⟨h1, fun e => ?_, ?_⟩
  · obtain ⟨W, e1, e2, e3⟩ := h2 e
    have hM := setC_made h hi e
    obtain ⟨_, _, _, _, _, _, _, e4⟩ := setC_at d.interval r C i hi e
    have l1 := setC_len r C i
    have l2 := setC_len' r C i
    have hh : hdOf (setC r C i) = hdOf C := by unfold hdOf; rw [l1, l2]
    have ha := all_made hM hv ho (by rw [l1]; omega)
    rw [hh, pairsC_eq, e4, List.map_set] at ha
    exact ⟨W, _, e1, e2, e3, memOf_small _ _ (by omega), by rw [length_memOf]; omega, ha⟩
  · have hm : (recsA d.interval C).getD i (0, []) ∈ recsA d.interval C := by rw [List.getD, List.getElem?_eq_getElem hi]; exact List.getElem_mem hi
    have h1 := recsA_ge (by omega) h.fit _ hm
    have h2 := (recsA_lt h.fit _ hm).1
    have h3 : ((C.length + 1 : Nat) : Int) * d.interval ≤ 41 * 512 := Int.mul_le_mul (by omega) (by omega) (by omega) (by omega)
    exact ⟨((recsA d.interval C).getD i (0, [])).1.toNat, by omega, by omega⟩
/-- Does the law speak of this input? -/
def repB (d : DS) (L : Recs) (r : List UInt8) : Bool := shortB L 40 300 && validB d && decide (d.org = 1) && decide (r.length ≤ 300)
set_option maxRecDepth 100000 in
set_option maxHeartbeats 4000000 in
theorem EntryseqReplaces_no (p : Option Addr) (cap n : Nat) (L : Recs) (d : DS) (b : Nat) (r : List UInt8) (w : World) (hs : Strs w p L) (hn : L.length = n) (hl : L.length ≤ maxLen) (hno : repB d L r = false) :
    Calls Tryd.prog 7 #[.agg #[.int .i64 d.id, .int .i64 d.org, .int .i64 d.format, .int .i64 d.length, .int .i64 d.block, .int .i64 d.keyAt, .int .i64 d.keyLength, .int .i64 d.interval, .int .i64 d.area, .int .i64 d.freeInterval, .int .i64 d.freeArea, .int .i64 d.base, .int .i64 d.altAt, .int .i64 d.altLength, .bool d.unique, .int .i64 d.cls, .string ⟨d.volume.toArray⟩, .string ⟨d.owner.toArray⟩, .int .i64 d.created, .int .i64 d.expires, .bool d.archived], .slice p n cap, .int .u8 b, .string ⟨r.toArray⟩] w fun e w' => e = .returned (.bool true) ∧ Ext w w' := by
  have HS1 := Lib.hid (fun w h => small_any p cap n L w h hn hl)
  have Hs := Lib.hid hs
  have HV := Lib.hid (fun w => Valid_ref d w)
  unfold repB at hno
  clear hs
  generalize shortB L 40 300 = s1 at *
  generalize validB d = s3 at *
  have hoI : (d.org != 1) = !decide (d.org = 1) := by by_cases h : d.org = 1 <;> simp [h]
  generalize decide (d.org = 1) = s4 at *
  cases s1
  · clear hno
    go_enter Tryd.func7, Tryd.ntmps7
    go_upto_region 1 with (fail)
    refine wp_name (fun w0 => Ext w w0 ∧ DsAt w0 w.heap.size d) ⟨Ext.alloc _ _, Blk.new _ _⟩ ?_
    rintro w0 ⟨he0, hb2⟩
    go_wp2_with (first | (go_at_call 10; refine (awake_any _).mono ?_; rintro e w1 ⟨rfl, he1⟩) | (go_at_call 11; refine (HS1.out _ (Hs.out.ext (he0.trans he1))).mono ?_; rintro e w2 ⟨rfl, rfl⟩) | (refine wpList_ds rfl (.tmp 4) rfl _ rfl d (hb2.ext he1) ?_) | (go_at_call 17; refine (HV.out _).mono ?_; rintro e w3 ⟨rfl, he3⟩; have c1 : w3.cell? ⟨w.heap.size, 1, none⟩ = some (.int .i64 d.org) := Blk.val ((hb2.ext he1).ext he3) 1 _ rfl; have c3 : w3.cell? ⟨w.heap.size, 3, none⟩ = some (.int .i64 d.length) := Blk.val ((hb2.ext he1).ext he3) 3 _ rfl))
    go_ret
    exact ⟨rfl, he0.trans he1⟩
  · cases s3
    · clear hno
      go_enter Tryd.func7, Tryd.ntmps7
      go_upto_region 1 with (fail)
      refine wp_name (fun w0 => Ext w w0 ∧ DsAt w0 w.heap.size d) ⟨Ext.alloc _ _, Blk.new _ _⟩ ?_
      rintro w0 ⟨he0, hb2⟩
      go_wp2_with (first | (go_at_call 10; refine (awake_any _).mono ?_; rintro e w1 ⟨rfl, he1⟩) | (go_at_call 11; refine (HS1.out _ (Hs.out.ext (he0.trans he1))).mono ?_; rintro e w2 ⟨rfl, rfl⟩) | (refine wpList_ds rfl (.tmp 4) rfl _ rfl d (hb2.ext he1) ?_) | (go_at_call 17; refine (HV.out _).mono ?_; rintro e w3 ⟨rfl, he3⟩; have c1 : w3.cell? ⟨w.heap.size, 1, none⟩ = some (.int .i64 d.org) := Blk.val ((hb2.ext he1).ext he3) 1 _ rfl; have c3 : w3.cell? ⟨w.heap.size, 3, none⟩ = some (.int .i64 d.length) := Blk.val ((hb2.ext he1).ext he3) 3 _ rfl))
      go_ret
      exact ⟨rfl, (he0.trans he1).trans he3⟩
    · cases s4
      · clear hno
        go_enter Tryd.func7, Tryd.ntmps7
        go_upto_region 1 with (fail)
        refine wp_name (fun w0 => Ext w w0 ∧ DsAt w0 w.heap.size d) ⟨Ext.alloc _ _, Blk.new _ _⟩ ?_
        rintro w0 ⟨he0, hb2⟩
        go_wp2_with (first | (go_at_call 10; refine (awake_any _).mono ?_; rintro e w1 ⟨rfl, he1⟩) | (go_at_call 11; refine (HS1.out _ (Hs.out.ext (he0.trans he1))).mono ?_; rintro e w2 ⟨rfl, rfl⟩) | (refine wpList_ds rfl (.tmp 4) rfl _ rfl d (hb2.ext he1) ?_) | (go_at_call 17; refine (HV.out _).mono ?_; rintro e w3 ⟨rfl, he3⟩; have c1 : w3.cell? ⟨w.heap.size, 1, none⟩ = some (.int .i64 d.org) := Blk.val ((hb2.ext he1).ext he3) 1 _ rfl; have c3 : w3.cell? ⟨w.heap.size, 3, none⟩ = some (.int .i64 d.length) := Blk.val ((hb2.ext he1).ext he3) 3 _ rfl))
        go_ret
        exact ⟨rfl, (he0.trans he1).trans he3⟩
      · have h6 : ¬ r.length ≤ 300 := by simpa using hno
        have k1 : decide ((300 : Int) < (r.length : Int)) = true := decide_eq_true (by omega)
        have k2 : decide (300 < r.length) = true := decide_eq_true (by omega)
        clear hno h6
        go_enter Tryd.func7, Tryd.ntmps7
        go_upto_region 1 with (fail)
        refine wp_name (fun w0 => Ext w w0 ∧ DsAt w0 w.heap.size d) ⟨Ext.alloc _ _, Blk.new _ _⟩ ?_
        rintro w0 ⟨he0, hb2⟩
        go_wp2_with (first | (go_at_call 10; refine (awake_any _).mono ?_; rintro e w1 ⟨rfl, he1⟩) | (go_at_call 11; refine (HS1.out _ (Hs.out.ext (he0.trans he1))).mono ?_; rintro e w2 ⟨rfl, rfl⟩) | (refine wpList_ds rfl (.tmp 4) rfl _ rfl d (hb2.ext he1) ?_) | (go_at_call 17; refine (HV.out _).mono ?_; rintro e w3 ⟨rfl, he3⟩; have c1 : w3.cell? ⟨w.heap.size, 1, none⟩ = some (.int .i64 d.org) := Blk.val ((hb2.ext he1).ext he3) 1 _ rfl; have c3 : w3.cell? ⟨w.heap.size, 3, none⟩ = some (.int .i64 d.length) := Blk.val ((hb2.ext he1).ext he3) 3 _ rfl))
        go_ret
        exact ⟨rfl, (he0.trans he1).trans he3⟩
set_option maxRecDepth 100000 in
set_option maxHeartbeats 40000000 in
theorem EntryseqReplaces_yes (p : Option Addr) (cap n : Nat) (L : Recs) (d : DS) (b : Nat) (hb8 : b < 256) (r : List UInt8) (w : World) (hs : Strs w p L) (hn : L.length = n) (hl : L.length ≤ maxLen) (h1 : shortB L 40 300 = true) (hv : validB d = true) (ho : d.org = 1) (hrl3 : r.length ≤ 300) :
    Calls Tryd.prog 7 #[.agg #[.int .i64 d.id, .int .i64 d.org, .int .i64 d.format, .int .i64 d.length, .int .i64 d.block, .int .i64 d.keyAt, .int .i64 d.keyLength, .int .i64 d.interval, .int .i64 d.area, .int .i64 d.freeInterval, .int .i64 d.freeArea, .int .i64 d.base, .int .i64 d.altAt, .int .i64 d.altLength, .bool d.unique, .int .i64 d.cls, .string ⟨d.volume.toArray⟩, .string ⟨d.owner.toArray⟩, .int .i64 d.created, .int .i64 d.expires, .bool d.archived], .slice p n cap, .int .u8 b, .string ⟨r.toArray⟩] w fun e w' => e = .returned (.bool true) ∧ Ext w w' := by
  obtain ⟨hL, hLs⟩ := short_at h1
  have HS1 := Lib.hid (fun w h => small_any p cap n L w h hn hl)
  rw [h1] at HS1
  have HV := Lib.hid (fun w => Valid_ref d w)
  rw [hv] at HV
  have hMd := builtC_made d hv L.length L (Nat.le_refl _)
  rw [List.take_length] at hMd
  obtain ⟨hMd, hcnt⟩ := hMd
  have HBu := Lib.hid (fun w h => build_any p cap n L d w h hn hv ho hL hLs)
  have hbl := built_len d L.length L (Nat.le_refl _)
  rw [List.take_length] at hbl
  have HRp := Lib.hid (fun i hi => repS_made hMd hv ho (by omega) hbl r i hi)
  have hcl := count_len (builtC d L) (fun M hM => (hMd.good M hM).1)
  have Hs := Lib.hid hs
  have hoI : (d.org != 1) = false := by simp [ho]
  subst hn
  have hsm1 := memOf_small d.interval (builtC d L) (by omega)
  have hml1 : (memOf d.interval (builtC d L)).length ≤ 1000 := by rw [length_memOf]; omega
  have hrl := recsA_len d.interval (builtC d L)
  have hpc : pairsC d.interval (builtC d L) = (recsA d.interval (builtC d L)).map pairA := rfl
  have Hsm1 := Lib.hid hsm1
  generalize builtC d L = C at *
  have k1 : decide ((300 : Int) < (r.length : Int)) = false := decide_eq_false (by omega)
  have k2 : decide (300 < r.length) = false := decide_eq_false (by omega)
  clear hs h1 hv ho hMd hLs hsm1 hcl hbl
  go_enter Tryd.func7, Tryd.ntmps7
  go_upto_region 1 with (fail)
  refine wp_name (fun w0 => Ext w w0 ∧ DsAt w0 w.heap.size d) ⟨Ext.alloc _ _, Blk.new _ _⟩ ?_
  rintro w0 ⟨he0, hb2⟩
  go_upto_region 5 with (first | (go_at_call 10; refine (awake_any _).mono ?_; rintro e w1 ⟨rfl, he1⟩) | (go_at_call 11; refine (HS1.out _ (Hs.out.ext (he0.trans he1))).mono ?_; rintro e w2 ⟨rfl, rfl⟩) | (refine wpList_ds rfl (.tmp 4) rfl _ rfl d (hb2.ext he1) ?_) | (go_at_call 17; refine (HV.out _).mono ?_; rintro e w3 ⟨rfl, he3⟩; have c1 : w3.cell? ⟨w.heap.size, 1, none⟩ = some (.int .i64 d.org) := Blk.val ((hb2.ext he1).ext he3) 1 _ rfl))
  refine wp_name (fun w4 => Ext w w4 ∧ DsAt w4 w.heap.size d) ⟨(he0.trans he1).trans he3, (hb2.ext he1).ext he3⟩ ?_
  clear hb2 he0 he1 he3 c1
  rintro w4 ⟨he4, hb4⟩
  go_upto_region 6 with (first | (refine wpList_ds rfl (.tmp 4) rfl _ rfl d hb4 ?_) | (go_at_call 18; refine (HBu.out _ (Hs.out.ext he4)).mono ?_; rintro e w5 ⟨he5, q1, k1, c1, q2, k2, c2, rfl, ho1, ho2⟩) | (refine wpList_put rfl 28 (.tmp 9) (.tmp 43) rfl _ #[.int .i64 (hdOf C).applied, .int .i64 (hdOf C).count, .int .i64 (hdOf C).fin, .int .i64 (hdOf C).root, .int .i64 (hdOf C).height, .int .i64 (hdOf C).splits, .int .i64 (hdOf C).areas] rfl rfl _ _ (Blk.new w5 _) hdSize rfl (hd_one (hdOf C)) ?_; intro w6 hb6 hc6))
  have hx5 := he4.trans he5
  obtain ⟨q1', c1', hq1⟩ := own_slice ho1
  cases hq1
  obtain ⟨q2', c2', hq2⟩ := own_slice ho2
  cases hq2
  obtain ⟨H, hH⟩ : ∃ H : Hd, H = hdOf C := ⟨_, rfl⟩
  obtain ⟨R, hR⟩ : ∃ R : List (Int × List UInt8), R = recsA d.interval C := ⟨_, rfl⟩
  rw [← hH] at HRp
  rw [← hR] at HRp hrl hpc
  rw [← hH] at hb6
  refine wp_name (fun w7 => Ext w w7 ∧ HdAt w7 w5.heap.size H ∧ DsAt w7 w.heap.size d ∧ w7.ownsRow w.heap.size 9 1 (.slice q1 (memOf d.interval C).length c1) (memOf d.interval C).length ((memOf d.interval C).map fun s => .string ⟨s.toArray⟩) ∧ w7.ownsRow w.heap.size 61 2 (.slice q2 (pairsC d.interval C).length c2) (pairsC d.interval C).length (prCells (pairsC d.interval C)))
    ⟨hc6.ext (hx5.trans (Ext.alloc _ _)) hx5.size, hb6, hc6.blk (Blk.alloc (hb4.ext he5) _) (by have := Blk.lt (hb4.ext he5); omega), own_chgT (own_le (own_ext ho1 (Ext.alloc _ _)) he4.size) (by decide) (Blk.new w5 _) hc6, own_chgT (own_le (own_ext ho2 (Ext.alloc _ _)) he4.size) (by decide) (Blk.new w5 _) hc6⟩ ?_
  have hwb : w.heap.size < w5.heap.size := Blk.lt (hb4.ext he5)
  generalize w5.heap.size = hb at *
  clear he4 he5 hx5 hb4 ho1 ho2 hb6 hc6 hH hR
  rintro w7 ⟨he7, hb7, hd7, hm7, hp7⟩
  have hpl : (pairsC d.interval C).length = R.length := by rw [hpc, List.length_map]
  have hmp : 0 < (memOf d.interval C).length := by rw [length_memOf]; omega
  generalize pairsC d.interval C = PC at *
  generalize memOf d.interval C = m at *
  have Hrl := Lib.hid (show R.length ≤ 40 by omega)
  have He7 := Lib.hid he7
  by_cases hz : PC.length = 0
  · have hzI : ((PC.length : Int) == 0) = true := by simpa using hz
    clear hpc hrl
    go_wp2_with fail
    go_ret
    exact ⟨rfl, He7.out⟩
  have hzI : ((PC.length : Int) == 0) = false := by simpa using hz
  obtain ⟨I, hI⟩ : ∃ I : Nat, I = b % PC.length := ⟨_, rfl⟩
  have hIl : I < PC.length := by rw [hI]; exact Nat.mod_lt _ (by omega)
  have hbI : IntKind.i64.wrap (b : Int) = b := IntWalk.i64_in _ (by omega)
  have hmI : (b : Int).tmod (PC.length : Int) = (I : Int) := by rw [Int.tmod_eq_emod_of_nonneg (by omega), hI]; exact (Int.natCast_emod _ _).symm
  have hII : IntKind.i64.wrap (I : Int) = I := IntWalk.i64_in _ (by have h1 := Hrl.out; have h2 := hpl; have h3 := hIl; omega)
  obtain ⟨_, _, eq1, hP7, _⟩ := own_prs hp7
  cases eq1
  obtain ⟨g, o, hq, hgb, hc⟩ := hP7.at I hIl
  subst hq
  obtain rfl : o = 0 := by
    obtain ⟨_, ⟨h0, _⟩ | ⟨_, _, _, e, _⟩⟩ := hp7
    · cases h0
    · cases e; rfl
  obtain ⟨cc1, cc2⟩ := hc I hIl
  simp only [Nat.zero_add] at cc1 cc2
  have hIR : I < R.length := by omega
  have hpI : PC.getD I ([], []) = (slotL (R.getD I (0, [])).1, (R.getD I (0, [])).2) := by rw [hpc]; simp [List.getD, hIR, pairA]
  obtain ⟨hne, heq, N, hN, hN2⟩ := HRp.out I hIR
  have hpS : PC.set I ((PC.getD I ([], [])).1, r) = (R.map pairA).set I (slotL (R.getD I (0, [])).1, r) := by rw [hpI, hpc]
  rw [← hpS] at heq
  rw [hpI] at cc1 cc2
  obtain ⟨ad, rfl⟩ := Option.isSome_iff_exists.1 (own_nonil hm7 hmp)
  have hsq := own_strs3 hm7
  have Hsm := Hsm1.out
  have HRe := Lib.hid (fun w' (e : Ext w7 w') => Replace_any (some ad) m.length c1 m H d (N : Int) r (fun s hs => by rw [Int.tdiv_eq_ediv_of_nonneg (by omega)]; have h1 : (N : Int) / s ≤ N := Int.ediv_le_self _ (by omega); have h2 : 0 ≤ (N : Int) / s := Int.ediv_nonneg (by omega) (by omega); exact IntWalk.i64_in _ (by omega)) w' (hsq.ext e) rfl Hsm (by omega))
  have hseq : (PC.set I ((PC.getD I ([], [])).1, r)).length = PC.length := by simp
  generalize R.getD I (0, []) = xs at *
  obtain ⟨x, s⟩ := xs
  simp only at hN hne heq cc1 cc2
  subst hN
  have HNm := Lib.hid (fun w => Number_slot N (by omega) w)
  generalize slotL (N : Int) = sl at *
  have Hsp := Lib.hid (fun (s' : List UInt8) => own_setPr (s := s') hp7 hIl)
  have Hp7 := Lib.hid hp7
  have Hm7 := Lib.hid hm7
  have Hpl := Lib.hid hpl
  have Hseq := Lib.hid hseq
  clear hc hpc hrl hI hP7 hp7 hm7 hpl hpI hpS hIR hN2 hsq hseq
  by_cases hrs : r.length = s.length
  · obtain ⟨W, m', e1, hW, hpu, hsm', hml', hall⟩ := heq hrs
    rw [e1] at HRe
    have hrI : ((r.length : Int) == (s.length : Int)) = true := by simp [hrs]
    have HW := Lib.hid hW
    have Hall := Lib.hid hall
    have Hsm' := Lib.hid hsm'
    have Hpu := Lib.hid hpu
    have HPS := Lib.hid (fun w' (e : Ext w7 w') => (own_setPr (s := r) (own_ext Hp7.out e) hIl).1)
    generalize PC.set I ((PC.getD I ([], [])).1, r) = PS at *
    clear hne heq e1 hrs hW hall hsm' hpu
    go_upto_region 10 with (go_at_call 28; refine (HNm.out _).mono ?_; rintro e w' ⟨rfl, rfl⟩)
    go_upto_region 11 with (first | (refine wpList_hd rfl (.tmp 9) rfl _ rfl H hb7 ?_) | (refine wpList_ds rfl (.tmp 4) rfl _ rfl d hd7 ?_) | (go_at_call 21; refine (HRe.out _ (Ext.refl _)).mono ?_; rintro e w8 ⟨he8, q8, k8, c8, rfl, hk8, hw8⟩))
    have hk2 := (he8.cell g _ hgb).trans cc2
    have hk1 := (he8.cell g _ hgb).trans cc1
    have hg8 := Nat.lt_of_lt_of_le hgb he8.size
    subst hk8
    rw [HW.out]
    obtain ⟨_, ⟨cs, hgB⟩, hBg⟩ := Hsp.out r
    have hG8 : Blk w8 g (.cells cs 61) := he8.blk _ _ hgB
    have hfz := hG8.free (I * 2 + 1)
    go_upto_region 15 with (fail)
    go_upto_region 16 with (fail)
    have hc9 : Chg g w8 (w8.setCell ⟨g, I * 2 + 1, none⟩ (.string ⟨r.toArray⟩)) := Chg.setCell
    have htc : TChg 0 61 w8 (w8.setCell ⟨g, I * 2 + 1, none⟩ (.string ⟨r.toArray⟩)) := ⟨g, cs, Nat.zero_le _, hG8, hc9⟩
    refine wp_name (fun w9 => Ext w w9 ∧ HdAt w9 hb H ∧ DsAt w9 w.heap.size d ∧ w9.ownsRow w.heap.size 9 1 (.slice (some ad) m.length c1) m.length (m.map fun s : List UInt8 => Value.string ⟨s.toArray⟩) ∧ w9.ownsRow w.heap.size 61 2 (.slice (some ⟨g, 0, none⟩) PC.length c2) PC.length (prCells PS) ∧ Wrts w9 q8 W)
      ⟨hc9.ext (He7.out.trans he8) hBg, Blk.tchg' (hb7.ext he8) (by decide) htc, Blk.tchg' (hd7.ext he8) (by decide) htc, own_chgT (own_ext Hm7.out he8) (by decide) hG8 hc9, HPS.out w8 he8, hw8.tchg (by decide) htc⟩ ?_
    clear hc9 htc hfz hG8 hgB hBg hk1 hk2 hg8 hw8 he8 hb7 hd7
    rintro w9 ⟨he9, hb9, hd9, hm9, hp9, hw9⟩
    have hsq9 := own_strs3 hm9
    have HE9 := Lib.hid he9
    have HPu := Lib.hid (fun w' (e : Ext w9 w') => (Put_any ad q8 m.length c1 1 c8 m W w' (hsq9.ext e) rfl (hw9.ext e) HW.out (by omega) (by have := HW.out; omega)).mono (show ∀ (e : Ending) (w'' : World), (Ext w' w'' ∧ ∃ v, e = .returned v ∧ w''.ownsRow w'.heap.size 9 1 v (putsP m W).length ((putsP m W).map fun s => .string ⟨s.toArray⟩)) → (∃ v, e = .returned v ∧ Ext w' w'' ∧ RowsF 9 w.heap.size 1 m'.length (m'.map fun s : List UInt8 => Value.string ⟨s.toArray⟩) v w'') from fun e' w'' ⟨h1, v, h2, h3⟩ => ⟨v, h2, h1, by rw [Hpu.out] at h3; obtain ⟨q2, c2, rfl⟩ := own_slice h3; exact ⟨q2, c2, rfl, own_le h3 (HE9.out.trans e).size⟩⟩))
    have HAl := Lib.hid (fun w' (e : Ext w9 w') q c (h : w'.ownsRow w.heap.size 9 1 (.slice q m'.length c) m'.length (m'.map fun s : List UInt8 => Value.string ⟨s.toArray⟩)) => (All_any q m'.length c m' H d w' (own_strs3 h) rfl Hsm'.out (by omega)).mono (fun e' w'' a => allOut_F e.size a))
    rw [Hall.out] at HAl
    have Hb9 := Lib.hid hb9
    have Hd9 := Lib.hid hd9
    have Hp9 := Lib.hid hp9
    have hhb : hb < w9.heap.size := Blk.lt hb9
    clear hb9 hd9 hm9 hp9 hw9 hsq9 he9
    refine wp_region_mk 200 (Ext.refl w9) (by kernel_rfl) (by kernel_rfl) (by kernel_rfl) ?_
    simp only [List.take_succ_cons, List.take_zero, List.take_nil, List.drop_succ_cons, List.drop_zero, List.drop_nil, List.map_cons, List.map_nil]
    repeat (first
      | (refine wpML_fact (o := ⟨some 109, _, _, _, _, _⟩) (IfcF (RowsF 9 w.heap.size 1 m'.length (m'.map fun s : List UInt8 => Value.string ⟨s.toArray⟩)) 29) (IfcF.stable (RowsF.stable _ _ _ _ _) _) rfl ?_ ?_
         · intro a w' he hr K hK
           obtain ⟨q1, c1, h1, h3⟩ := hr 108 (by simp [Oper.looksAt, Op.operands])
           simp at h1
           go_simp
           exact hK _ _ (Ext.refl _) ⟨_, rfl, q1, c1, rfl, h3⟩
         simp only [setL, List.set_cons_succ, List.set_cons_zero])
      | (refine wpML_det (o := ⟨some 110, _, _, _, _, _⟩) (v := .agg #[.int .i64 H.applied, .int .i64 H.count, .int .i64 H.fin, .int .i64 H.root, .int .i64 H.height, .int .i64 H.splits, .int .i64 H.areas]) rfl ?_ ?_
         · intro a w' he hr K hK
           simp [Reads, Oper.looksAt, Op.operands, factAt, Is] at hr
           exact wp_load_row 28 (.tmp 9) rfl (hb) (by go_simp) _ _ _ _ (he.blk _ _ Hb9.out) hdDesc rfl hdSize (hK _ (Ext.refl _))
         simp only [setL, List.set_cons_succ, List.set_cons_zero])
      | (refine wpML_det (o := ⟨some 111, _, _, _, _, _⟩) (v := .agg #[.int .i64 d.id, .int .i64 d.org, .int .i64 d.format, .int .i64 d.length, .int .i64 d.block, .int .i64 d.keyAt, .int .i64 d.keyLength, .int .i64 d.interval, .int .i64 d.area, .int .i64 d.freeInterval, .int .i64 d.freeArea, .int .i64 d.base, .int .i64 d.altAt, .int .i64 d.altLength, .bool d.unique, .int .i64 d.cls, .string ⟨d.volume.toArray⟩, .string ⟨d.owner.toArray⟩, .int .i64 d.created, .int .i64 d.expires, .bool d.archived]) rfl ?_ ?_
         · intro a w' he hr K hK
           simp [Reads, Oper.looksAt, Op.operands, factAt, Is] at hr
           exact wp_load_row 23 (.tmp 4) rfl (w.heap.size) (by go_simp) _ _ _ _ (he.blk _ _ Hd9.out) dsDesc rfl dsSize (hK _ (Ext.refl _))
         simp only [setL, List.set_cons_succ, List.set_cons_zero])
      | (refine wpML_fact (o := ⟨some 112, _, _, _, _, _⟩) (AllF w9.heap.size (PS, 0)) (AllF.stable _ _) rfl ?_ ?_
         · intro a w' he hr K hK
           obtain ⟨y, h1, q1, c1, h2, h3⟩ := hr 109 (by simp [Oper.looksAt, Op.operands, Call.operands])
           simp [Reads, Oper.looksAt, Op.operands, Call.operands, factAt, Is] at hr
           subst h2
           simp at h1
           go_simp
           refine (HAl.out w' he q1 c1 h3).mono ?_
           rintro e w'' ⟨v, rfl, he', hf⟩
           exact hK _ _ he' hf
         simp only [setL, List.set_cons_succ, List.set_cons_zero])
      | (refine wpML_fact (o := ⟨some 113, _, _, _, _, _⟩) (RowsF 61 w9.heap.size 2 PS.length (prCells PS)) (RowsF.stable _ _ _ _ _) rfl ?_ ?_
         · intro a w' he hr K hK
           obtain ⟨q1, c1, h1, h3⟩ := hr 105 (by simp [Oper.looksAt, Op.operands])
           simp at h1
           go_simp
           exact hK _ _ (Ext.refl _) ⟨q1, c1, rfl, h3⟩
         simp only [setL, List.set_cons_succ, List.set_cons_zero])
      | (refine wpML_det (o := ⟨some 114, _, _, _, _, _⟩) (v := .int .i64 0) rfl ?_ ?_
         · intro a w' he hr K hK
           obtain ⟨q1, c1, h1, h3⟩ := hr 105 (by simp [Oper.looksAt, Op.operands])
           simp at h1
           go_simp
           exact hK _ (Ext.refl _)
         simp only [setL, List.set_cons_succ, List.set_cons_zero])
      | (refine wpML_move _ _ rfl (by first | exact .inl rfl | exact .inr rfl) rfl (by first | exact Is.stable _ | exact AllF.stable _ _ | exact RowsF.stable _ _ _ _ _ | exact AppF.stable _ | exact WrF.stable _ | exact PtrF.stable _ _ | exact IfcF.stable (Fresh.stable _ _ _) _ | exact PairF.stable (RowF.stable _ _ _ _) _ | exact RowF.stable _ _ _ _ | exact Fresh.stable _ _ _) ?_
         simp only [setL, List.set_cons_succ, List.set_cons_zero, List.getD_cons_succ, List.getD_cons_zero])
      | (refine wpML_moveC _ rfl (by first | exact .inl rfl | exact .inr rfl) ?_
         simp only [setL, List.set_cons_succ, List.set_cons_zero])
      | (apply wpML_det rfl
         · intro a w' he hr K hK
           simp [Reads, Oper.looksAt, Op.operands, Call.operands, factAt, Is] at hr
           have hx := he.cell
           go_simp
           try go_bits
           try (rw [if_neg (by omega)]; go_simp)
           first
             | exact hK _ (Ext.refl _)
         simp only [setL, List.set_cons_succ, List.set_cons_zero])
      | (refine wpML_fact (o := ⟨some 108, _, _, _, _, _⟩) (RowsF 9 w.heap.size 1 m'.length (m'.map fun s : List UInt8 => Value.string ⟨s.toArray⟩)) (RowsF.stable _ _ _ _ _) rfl ?_ ?_
         · intro a w' he hr K hK
           simp [Reads, Oper.looksAt, Op.operands, Call.operands, factAt, Is] at hr
           go_simp
           refine ((HPu.out w' he)).mono ?_
           rintro e w'' ⟨v, rfl, he', hf⟩
           exact hK _ _ he' hf
         simp only [setL, List.set_cons_succ, List.set_cons_zero])
      | (apply wpML_det rfl
         · intro a w' he hr K hK
           simp [Reads, Oper.looksAt, Op.operands, Call.operands, factAt, Fresh] at hr
           obtain ⟨b, hr1, hr2⟩ := hr
           go_simp
           exact hK _ (Ext.refl _)
         simp only [setL, List.set_cons_succ, List.set_cons_zero]))
    intro w2 he2
    repeat (first | with_reducible refine rest_is _ _ _ _ ?_ | (with_reducible refine rest_fact _ _ _ _ ?_; intro _ _) | with_reducible refine rest_end _ _ ?_)
    simp only [List.reverse_cons, List.reverse_nil, List.nil_append, List.cons_append]
    rename_i x18 h18 x105 h105 x108 h108 x109 h109 x112 h112 x113 h113
    clear h105 h108 h109 h112 h113
    obtain ⟨q18, c18, rfl, hown18⟩ := h18
    obtain ⟨_, _, e3, hA, _⟩ := own_prs (own_ext Hp9.out he2)
    cases e3
    obtain ⟨_, _, e4, hB, _⟩ := own_prs hown18
    cases e4
    have HSP := Lib.hid (SamePairs_any (some ⟨g, 0, none⟩) q18 c2 PC.length c18 PC.length PS PS w2 hA hB Hseq.out Hseq.out (by have h1 := Hseq.out; have h2 := Hpl.out; have h3 := Hrl.out; omega) (by have h1 := Hseq.out; have h2 := Hpl.out; have h3 := Hrl.out; omega))
    have hPS : (PS == PS) = true := by simp
    have HE2 := Lib.hid (HE9.out.trans he2)
    clear hA hB hown18 he2
    go_wp2_with (go_at_call 26; refine HSP.out.mono ?_; rintro e w15 ⟨rfl, n15, rfl⟩; rw [hPS])
    go_ret
    exact ⟨rfl, HE2.out.trans (Ext.drewN _ _)⟩
  · have hrI : ((r.length : Int) == (s.length : Int)) = false := by simp; omega
    rw [hne hrs] at HRe
    clear hne heq hrs
    go_upto_region 10 with (go_at_call 28; refine (HNm.out _).mono ?_; rintro e w' ⟨rfl, rfl⟩)
    go_upto_region 11 with (first | (refine wpList_hd rfl (.tmp 9) rfl _ rfl H hb7 ?_) | (refine wpList_ds rfl (.tmp 4) rfl _ rfl d hd7 ?_) | (go_at_call 21; refine (HRe.out _ (Ext.refl _)).mono ?_; rintro e w8 ⟨he8, q8, k8, c8, rfl, hk8, hw8⟩))
    have hk2 := (he8.cell g _ hgb).trans cc2
    have hg8 := Nat.lt_of_lt_of_le hgb he8.size
    simp only [List.length_nil] at hk8
    subst hk8
    go_wp2_with fail
    go_ret
    exact ⟨rfl, He7.out.trans he8⟩
theorem EntryseqReplaces_any (p : Option Addr) (cap n : Nat) (L : Recs) (d : DS) (b : Nat) (hb : b < 256) (r : List UInt8) (w : World) (hs : Strs w p L) (hn : L.length = n) (hcap : n ≤ cap) (hcm : cap ≤ maxLen) :
    Calls Tryd.prog 7 #[.agg #[.int .i64 d.id, .int .i64 d.org, .int .i64 d.format, .int .i64 d.length, .int .i64 d.block, .int .i64 d.keyAt, .int .i64 d.keyLength, .int .i64 d.interval, .int .i64 d.area, .int .i64 d.freeInterval, .int .i64 d.freeArea, .int .i64 d.base, .int .i64 d.altAt, .int .i64 d.altLength, .bool d.unique, .int .i64 d.cls, .string ⟨d.volume.toArray⟩, .string ⟨d.owner.toArray⟩, .int .i64 d.created, .int .i64 d.expires, .bool d.archived], .slice p n cap, .int .u8 b, .string ⟨r.toArray⟩] w fun e w' => e = .returned (.bool true) ∧ Ext w w' := by
  cases hc : repB d L r
  · exact EntryseqReplaces_no p cap n L d b r w hs hn (by omega) hc
  · unfold repB at hc
    simp only [Bool.and_eq_true, decide_eq_true_eq] at hc
    obtain ⟨⟨⟨h1, h2⟩, h3⟩, h4⟩ := hc
    exact EntryseqReplaces_yes p cap n L d b hb r w hs hn (by omega) h1 h2 h3 h4
end Go.Proofs.YtkhlglkipeoalaaDoor
/- The statement EntryseqReplaces: its walk joined to the given row and card. -/
namespace Go.Proofs.YtkhlglkipeoalaaDoor.entryseqReplaces
open Go.ChangeShapes Go.WideShapes Go.ChangeAt Go.RowKit Dsd
open Go.ChangeMaps (open_string shut_string)
set_option maxRecDepth 100000
theorem own : ownKnob Tryd.prog.godebug = none := by kernel_rfl
theorem laidOut : laidOutB Tryd.prog = true := by kernel_rfl

/-- What the walk gives, for every argument and every world. -/
theorem contract (H : Type) (enc : TypeId × Value → H) (W : World) (base : Nat) (args : Array Value) (ds gs : List (DataW H)) (before : List MemPlace)
    (hval : ∀ (j : Nat) t v, Tryd.f7.params[j]? = some t → args[j]? = some v → Value.okWide Tryd.prog W .any base t v)
    (hW : DataW.Whole enc Tryd.prog Tryd.f7.params.toList Rows.entryseqReplacesSpec.vars false W args.toList ds gs before) :
    Calls Tryd.prog 7 args W fun e W' => ∃ v, e = .returned v ∧ Rows.entryseqReplacesSpec.post enc Tryd.prog Tryd.f7 false true false false W args v W' := by
  have hW' := hW
  obtain ⟨p, q, hA0, hV, rfl, hfz, hnd⟩ := hW
  have hA : DataW.TrodAll enc Tryd.prog W 0 (fun _ => true) true Tryd.f7.params.toList args.toList ds p := hA0
  rw [Tryd.params7] at hA hval
  obtain ⟨v0, vs0, d0, ds0, p0, q0, hargs, rfl, rfl, h0, r0⟩ := trodAll_cons hA
  obtain ⟨v1, vs1, d1, ds1, p1, q1, rfl, rfl, rfl, h1, r1⟩ := trodAll_cons r0
  obtain ⟨v2, vs2, d2, ds2, p2, q2, rfl, rfl, rfl, h2, r2⟩ := trodAll_cons r1
  obtain ⟨v3, vs3, d3, ds3, p3, q3, rfl, rfl, rfl, h3, r3⟩ := trodAll_cons r2
  obtain ⟨rfl, rfl, rfl⟩ := trodAll_nil r3
  obtain rfl : args = #[v0, v1, v2, v3] := by cases args; simp_all
  obtain ⟨rfl, rfl⟩ := trodVars_none hV
  have k0 := h0
  have lt0 : ∀ x ∈ p0, x.block < W.heap.size := by obtain ⟨m, hm⟩ := k0; exact DataW.trod_lt m _ _ _ hm
  obtain ⟨x0, rfl⟩ := open_ds (hval 0 23 v0 rfl rfl) h0
  obtain ⟨a1, len1, cap1, rfl⟩ := okWide_slice Tryd.underlying24 (hval 1 24 v1 rfl rfl)
  have k1 := h1
  have lt1 : ∀ x ∈ p1, x.block < W.heap.size := by obtain ⟨m, hm⟩ := k1; exact DataW.trod_lt m _ _ _ hm
  obtain ⟨L1, hs1, hl1, hc1, hm1, hw1⟩ := open_strs Tryd.underlying24 Tryd.underlying9 (by kernel_rfl) h1
  obtain ⟨a2, rfl, rfl, rfl, w2⟩ := open_int Tryd.underlying5 (hval 2 5 v2 rfl rfl) h2
  obtain ⟨n2, rfl, b2⟩ : ∃ n : Nat, a2 = n ∧ n < 256 := by
    have := w2; simp [Lit.wf, IntKind.min, IntKind.max, IntKind.signed, IntKind.bits] at this; exact ⟨a2.toNat, by omega, by omega⟩
  obtain ⟨s3, rfl, rfl, rfl, w3⟩ := open_string Tryd.underlying9 (hval 3 9 v3 rfl rfl) h3
  clear hA0 hval
  have walk := EntryseqReplaces_any a1 cap1 len1 L1 x0 n2 b2 s3.data.toList W hs1 hl1 hc1 hm1
  refine walk.mono fun e W' ⟨he, bel⟩ => ?_
  subst he
  exact ⟨_, rfl, _, _, _, [], _, [], hW', trodAll_mk1 (shut_bool Tryd.underlying4 _), (trodAll_cons_mk (Below.trod laidOut (by kernel_rfl) (of_decide_eq_true (by kernel_rfl)) k0 bel lt0) (trodAll_cons_mk (Below.trod laidOut (by kernel_rfl) (of_decide_eq_true (by kernel_rfl)) k1 bel lt1) (trodAll_cons_mk (shut_int Tryd.underlying5 w2) (trodAll_cons_mk (shut_string Tryd.underlying9 w3) trodAll_mk0)))), rfl, bel.frame _, fun h => by cases h⟩

/-- The world of the witness: its tables laid. -/
noncomputable def laidWorld (os : Os) : World := World.laidAll Tryd.prog os Rows.entryseqReplacesRow.laid
theorem laid_met (os : Os) : laidMet Tryd.prog Rows.entryseqReplacesRow.laid ((laidWorld os).forCall (fun _ _ => 0) ⟨#[], #[.agg #[.int .i64 0, .int .i64 0, .int .i64 0, .int .i64 0, .int .i64 0, .int .i64 0, .int .i64 0, .int .i64 0, .int .i64 0, .int .i64 0, .int .i64 0, .int .i64 0, .int .i64 0, .int .i64 0, .bool false, .int .i64 0, .string ⟨#[]⟩, .string ⟨#[]⟩, .int .i64 0, .int .i64 0, .bool false], .slice none 0 0, .int .u8 0, .string ⟨#[]⟩], []⟩).memory :=
  laidMet_laidAll _ (by kernel_rfl) (by kernel_rfl)
theorem reads (os : Os) {H : Type} (enc : TypeId × Value → H) : ∃ places, DataW.whole enc Tryd.prog ((laidWorld os).forCall (fun _ _ => 0) ⟨#[], #[.agg #[.int .i64 0, .int .i64 0, .int .i64 0, .int .i64 0, .int .i64 0, .int .i64 0, .int .i64 0, .int .i64 0, .int .i64 0, .int .i64 0, .int .i64 0, .int .i64 0, .int .i64 0, .int .i64 0, .bool false, .int .i64 0, .string ⟨#[]⟩, .string ⟨#[]⟩, .int .i64 0, .int .i64 0, .bool false], .slice none 0 0, .int .u8 0, .string ⟨#[]⟩], []⟩).memory Tryd.f7.params.toList Rows.entryseqReplacesSpec.vars false (#[.agg #[.int .i64 0, .int .i64 0, .int .i64 0, .int .i64 0, .int .i64 0, .int .i64 0, .int .i64 0, .int .i64 0, .int .i64 0, .int .i64 0, .int .i64 0, .int .i64 0, .int .i64 0, .int .i64 0, .bool false, .int .i64 0, .string ⟨#[]⟩, .string ⟨#[]⟩, .int .i64 0, .int .i64 0, .bool false], .slice none 0 0, .int .u8 0, .string ⟨#[]⟩] : Array Value).toList 8 = some ([.agg [.lit (.int .i64 0), .lit (.int .i64 0), .lit (.int .i64 0), .lit (.int .i64 0), .lit (.int .i64 0), .lit (.int .i64 0), .lit (.int .i64 0), .lit (.int .i64 0), .lit (.int .i64 0), .lit (.int .i64 0), .lit (.int .i64 0), .lit (.int .i64 0), .lit (.int .i64 0), .lit (.int .i64 0), .lit (.bool false), .lit (.int .i64 0), .lit (.string []), .lit (.string []), .lit (.int .i64 0), .lit (.int .i64 0), .lit (.bool false)], .nil, .lit (.int .u8 0), .lit (.string [])], [], places) :=
  ⟨[], by kernel_rfl⟩

theorem lifted (os : Os) (started : os.Started) (H : Type) (enc : TypeId × Value → H) (F : Stop.Interp) :
    ReturnsInHanded {} Tryd.checked os 7 .any ((OpenSpec.ofChange Rows.entryseqReplacesSpec).preRow enc Tryd.prog Tryd.f7 Rows.entryseqReplacesRow.domain false Rows.entryseqReplacesRow.laid) (((OpenSpec.ofChange Rows.entryseqReplacesSpec).at F).post enc Tryd.prog Tryd.f7 false true false false) := by
  obtain ⟨places, hx⟩ := reads os enc
  refine returnsInHanded_of_row (C := Tryd.checked) (s := OpenSpec.ofChange Rows.entryseqReplacesSpec) own started (by kernel_rfl) Tryd.func7
    (witness_row_at (enc := enc) (C := Tryd.checked) false (laidWorld os) #[.agg #[.int .i64 0, .int .i64 0, .int .i64 0, .int .i64 0, .int .i64 0, .int .i64 0, .int .i64 0, .int .i64 0, .int .i64 0, .int .i64 0, .int .i64 0, .int .i64 0, .int .i64 0, .int .i64 0, .bool false, .int .i64 0, .string ⟨#[]⟩, .string ⟨#[]⟩, .int .i64 0, .int .i64 0, .bool false], .slice none 0 0, .int .u8 0, .string ⟨#[]⟩] (World.laidAll_os _ _ _) (by kernel_rfl) (by kernel_rfl) (by kernel_rfl)
      (OpenSpec.preRow_of_cond 8 hx (by kernel_rfl) (fun k hk => by cases hk) (by kernel_rfl) (laid_met os))) ?_
  intro W base args ds gs before hval hW _ _ _ hL _ _
  exact contract H enc W base args ds gs before hval hW

theorem said : Rows.EntryseqReplacesSaid :=
  OpenClaim.holds_of_cond 7 Tryd.f7 rfl rfl rfl rfl rfl rfl rfl ⟨rfl, rfl, rfl, rfl, rfl⟩ rfl rfl rfl rfl rfl (by kernel_rfl) Tryd.func7 (by kernel_rfl)
    (of_decide_eq_true (by kernel_rfl)) (by unfold Func.isWrapper; first | (rw [if_pos (by decide +kernel)]; kernel_rfl) | (rw [if_neg (by decide +kernel)]; exact ⟨rfl, rfl⟩))
    (fun os started H enc _ F => by rw [OpenClaim.pre_eq_preRow]; exact lifted os started H enc F)

theorem plain (f : FuncId) (fn : Func) (hf : Tryd.pinned.checked.prog.funcNamed Tryd.f7.name = some f) (hfn : Tryd.pinned.checked.prog.funcs[f]? = some fn) :
    false = Tryd.pinned.checked.prog.looks [] ∧ ∀ (j : Nat) t, fn.params[j]? = some t → Tryd.pinned.checked.prog.wantsStandIn t = false := by
  obtain rfl : f = 7 := Option.some.inj ((show Tryd.prog.funcNamed Tryd.f7.name = some 7 by kernel_rfl).symm.trans hf) |>.symm
  obtain rfl : fn = Tryd.f7 := (Option.some.inj (Tryd.func7.symm.trans hfn)).symm
  refine ⟨by kernel_rfl, fun j t ht => ?_⟩
  rw [Tryd.params7] at ht
  have hm : t ∈ #[23, 24, 5, 9] := Array.mem_of_getElem? ht
  have hall : (#[23, 24, 5, 9].all fun t => !Tryd.prog.wantsStandIn t) = true := by kernel_rfl
  have := (Array.all_eq_true'.1 hall) t hm
  exact (show Tryd.prog.wantsStandIn t = false by simpa using this)

/-- The statement. -/
theorem card : Rows.EntryseqReplacesCardSaid :=
  Claim7.holds_tied_plain_at .later [] _ _ _ _ said (fun _ h => by cases h) (by kernel_rfl) (fun _ h => by cases h) entryseqReplaces_row_tie rfl ⟨rfl, rfl⟩ (by kernel_rfl) rfl plain (by kernel_rfl)
end Go.Proofs.YtkhlglkipeoalaaDoor.entryseqReplaces
