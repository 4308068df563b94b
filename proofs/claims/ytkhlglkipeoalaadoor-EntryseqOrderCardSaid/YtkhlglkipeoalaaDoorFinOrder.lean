/- Plain laws of chapter 18: a made cluster's records in their order, by Next and by Get. -/
import Derived.Test.YtkhlglkipeoalaaDoorXN
import Derived.Test.YtkhlglkipeoalaaDoorX33
import Derived.Test.YtkhlglkipeoalaaDoorOp
import Derived.Test.YtkhlglkipeoalaaDoorOp3
import Derived.Test.YtkhlglkipeoalaaDoorCards
import Derived.Test.YtkhlglkipeoalaaDoorTie
import Derived.WalkKit
import Derived.ProofKit
import Derived.OpenShut
import Derived.ShutString
import Derived.ChangeMaps5
import Derived.Below
import Derived.Lay
import Derived.Deep.DeepHandedRow
set_option linter.unusedSimpArgs false
set_option linter.unusedVariables false
namespace Dsd
/-- Addresses increase. -/
def Inc (l : List (Int × List UInt8)) : Prop := l.Pairwise fun x y => x.1 < y.1
theorem chunkA_inc : ∀ (L : Recs) (base : Int), (∀ r ∈ L, 1 ≤ r.length) → Inc (chunkA base L)
  | [], _, _ => List.Pairwise.nil
  | r :: L, base, h => by
    refine List.Pairwise.cons (fun y hy => ?_) (chunkA_inc L _ (fun s hs => h s (by simp [hs])))
    have := (chunkA_lt L (base + r.length) (fun s hs => h s (by simp [hs])) y hy).1
    have := h r (by simp)
    show base < y.1
    omega
theorem recsA_inc {size : Int} (h0 : 0 ≤ size) : ∀ {C : List Recs}, FitC size C → Inc (recsA size C)
  | [], _ => List.Pairwise.nil
  | L :: C, h => by
    have hC : FitC size C := fun M hM => h M (by simp [hM])
    have hL := h L (by simp)
    unfold Inc
    simp only [recsA]
    rw [List.pairwise_append]
    refine ⟨recsA_inc h0 hC, chunkA_inc L _ hL.1, fun x hx y hy => ?_⟩
    have h1 := (recsA_lt hC x hx).1
    have h2 := (chunkA_lt L _ hL.1 y hy).1
    omega
theorem find_inc {l : List (Int × List UInt8)} (h : Inc l) : ∀ (i : Nat) (hi : i < l.length), l.find? (fun x => decide (l[i].1 < x.1)) = l[i + 1]? := by
  induction l with
  | nil => intro i hi; simp at hi
  | cons x l ih =>
    intro i hi
    have hp := List.pairwise_cons.1 h
    cases i with
    | zero =>
      simp only [List.getElem_cons_zero, List.find?_cons, Int.lt_irrefl, decide_false, List.getElem?_cons_succ]
      cases l with
      | nil => rfl
      | cons y l =>
        have := hp.1 y (by simp)
        simp [List.find?_cons, this]
    | succ i =>
      have hi' : i < l.length := by simpa using hi
      have h1 := hp.1 l[i] (List.getElem_mem hi')
      simp only [List.getElem_cons_succ, List.find?_cons, List.getElem?_cons_succ]
      rw [decide_eq_false (by omega)]
      exact ih hp.2 i hi'
theorem recsA_ge {size : Int} (h0 : 0 ≤ size) : ∀ {C : List Recs}, FitC size C → ∀ x ∈ recsA size C, size ≤ x.1
  | [], _, x, hx => by simp [recsA] at hx
  | L :: C, h, x, hx => by
    have hC : FitC size C := fun M hM => h M (by simp [hM])
    simp only [recsA, List.mem_append] at hx
    rcases hx with hx | hx
    · exact recsA_ge h0 hC x hx
    · have h1 := (chunkA_lt L _ (h L (by simp)).1 x hx).1
      have h2 : 1 * size ≤ ((C.length + 1 : Nat) : Int) * size := Int.mul_le_mul_of_nonneg_right (by omega) h0
      omega
theorem chunkA_mem : ∀ (L : Recs) (base : Int) (x : Int × List UInt8), x ∈ chunkA base L → ∃ k, k < L.length ∧ x = (base + (sumLen (L.take k) : Int), L.getD k [])
  | [], _, x, h => by simp [chunkA] at h
  | r :: L, base, x, h => by
    simp only [chunkA, List.mem_cons] at h
    rcases h with rfl | h
    · exact ⟨0, by simp, by simp [sumLen]⟩
    · obtain ⟨k, hk, rfl⟩ := chunkA_mem L _ x h
      refine ⟨k + 1, by simpa using hk, ?_⟩
      simp only [List.take_succ_cons, sumLen_cons, List.getD_cons_succ, Prod.mk.injEq, and_true]
      push_cast
      omega
theorem recsA_mem {size : Int} : ∀ {C : List Recs} {x : Int × List UInt8}, x ∈ recsA size C → ∃ p k : Nat, 1 ≤ p ∧ p ≤ C.length ∧ k < (C.reverse.getD (p - 1) []).length ∧ x = ((p : Int) * size + (sumLen ((C.reverse.getD (p - 1) []).take k) : Int), (C.reverse.getD (p - 1) []).getD k [])
  | [], x, h => by simp [recsA] at h
  | L :: C, x, h => by
    simp only [recsA, List.mem_append] at h
    rcases h with h | h
    · obtain ⟨p, k, h1, h2, h3, h4⟩ := recsA_mem h
      have e : (L :: C).reverse.getD (p - 1) [] = C.reverse.getD (p - 1) [] := by
        rw [List.reverse_cons]
        simp [List.getD, List.getElem?_append_left (show p - 1 < C.reverse.length by simp; omega)]
      exact ⟨p, k, h1, by simp; omega, by rw [e]; exact h3, by rw [e]; exact h4⟩
    · obtain ⟨k, hk, rfl⟩ := chunkA_mem L _ x h
      have e : (L :: C).reverse.getD (C.length + 1 - 1) [] = L := by
        rw [List.reverse_cons]
        simp [List.getD]
      exact ⟨C.length + 1, k, by omega, by simp, by rw [e]; exact hk, by rw [e]⟩
theorem idxFrom_at : ∀ (L : Recs) (i a k : Nat), k < L.length → (∀ r ∈ L, 1 ≤ r.length) → idxFrom L i a (a + sumLen (L.take k)) = some (i + k)
  | [], _, _, _, h, _ => by simp at h
  | r :: L, i, a, 0, _, _ => by simp [idxFrom, sumLen]
  | r :: L, i, a, k + 1, h, hr => by
    have h1 := hr r (by simp)
    have := idxFrom_at L (i + 1) (a + r.length) k (by simpa using h) (fun s hs => hr s (by simp [hs]))
    rw [idxFrom, List.take_succ_cons, sumLen_cons, if_neg (by omega), ← Nat.add_assoc, this]
    congr 1
    omega
/-- The scan of a made cluster from a page on. -/
theorem scan_from {size : Int} (h0 : 1 ≤ size) : ∀ (C : List Recs), GoodC size C → FitC size C → ∀ p : Int, 1 ≤ p → ∃ pre, recsA size C = pre ++ (scanOf (memOf size C) size C.length p).1 ∧ (∀ x ∈ pre, x.1 < p * size) ∧ (scanOf (memOf size C) size C.length p).2 = 0 := by
  intro C hg hf p hp
  by_cases hple : p ≤ C.length
  · -- all k pages before p
    have key : ∀ k : Nat, (k : Int) < p → ∃ pre, recsA size C = pre ++ (scanOf (memOf size C) size C.length (k + 1)).1 ∧ (∀ x ∈ pre, x.1 < ((k : Int) + 1) * size) ∧ (scanOf (memOf size C) size C.length (k + 1)).2 = 0 := by
      intro k
      induction k with
      | zero =>
        intro _
        have hs : scanOf (memOf size C) size C.length 1 = (recsA size C, 0) := by
          unfold scanOf
          rw [show ((C.length : Int) + 1 - 1).toNat = C.length by omega]
          exact scan_made C hg
        exact ⟨[], by simp [hs], by simp, by simp [hs]⟩
      | succ k ih =>
        intro hk
        obtain ⟨pre, h1, h2, h3⟩ := ih (by omega)
        have hl : loadOf (memOf size C) size ((k : Int) + 1) = (C.reverse.getD k [], 0) := by
          have := load_at (p := k + 1) hg (by omega) (by omega)
          rw [show ((k : Int) + 1) = ((k + 1 : Nat) : Int) by push_cast; rfl, this]
          simp
        have hsc := scan_ok (m := memOf size C) (size := size) (fin := C.length) (p := (k : Int) + 1) (by omega) (by rw [hl])
        rw [hl] at hsc
        simp only at hsc
        rw [hsc] at h1 h3
        have hmem : C.reverse.getD k [] ∈ C := by
          have hkl : k < C.reverse.length := by simp; omega
          have : C.reverse.getD k [] = C.reverse[k]'hkl := by rw [List.getD, List.getElem?_eq_getElem hkl]; rfl
          rw [this]
          exact List.mem_reverse.1 (List.getElem_mem hkl)
        have hfm := hf _ hmem
        refine ⟨pre ++ chunkA (((k : Int) + 1) * size) (C.reverse.getD k []), ?_, ?_, ?_⟩
        · rw [h1]
          simp only [List.append_assoc]
          push_cast
          rfl
        · intro x hx
          rw [List.mem_append] at hx
          push_cast
          have e : ((k : Int) + 1 + 1) * size = ((k : Int) + 1) * size + size := by rw [Int.add_mul ((k : Int) + 1) 1 size]; omega
          rcases hx with hx | hx
          · have := h2 x hx; omega
          · have := (chunkA_lt _ _ hfm.1 x hx).2; omega
        · push_cast; exact h3
    have := key (p - 1).toNat (by omega)
    rw [show (((p - 1).toNat : Int) + 1) = p by omega] at this
    exact this
  · have hs := scan_end (m := memOf size C) (size := size) (fin := C.length) (p := p) (by omega)
    refine ⟨recsA size C, by rw [hs]; simp, fun x hx => ?_, by rw [hs]⟩
    have h1 := (recsA_lt hf x hx).1
    have h2 : ((C.length + 1 : Nat) : Int) * size ≤ p * size := Int.mul_le_mul_of_nonneg_right (by omega) (by omega)
    omega
end Dsd
namespace Go.Proofs.YtkhlglkipeoalaaDoor
open Go.RowKit Dsd
/-- What Next answers over a made cluster. -/
theorem next_made {d : DS} {C : List Recs} (h : Made d C) (hv : validB d = true) (ho : d.org = 1) (hc : (C.map List.length).sum ≤ 1000) (a : Int) :
    nextOf (memOf d.interval C) (hdOf C) d a = match (recsA d.interval C).find? (fun x => decide (a < x.1)) with
      | some x => (x, 0)
      | none => ((0, []), 6) := by
  have hcl := count_len C (fun L hL => (h.good L hL).1)
  obtain ⟨_, _, v3, _, _, _⟩ := valid_spec hv
  have hi0 : 128 ≤ d.interval := by rcases isSize_spec v3 with h | h | h <;> omega
  have e1 : (hdOf C).count = ((C.map List.length).sum : Int) := rfl
  have e2 : (hdOf C).fin = (C.length : Int) := rfl
  have hp : plainB (hdOf C) = true := by
    unfold plainB
    rw [e1, e2]
    simp only [Bool.and_eq_true, decide_eq_true_eq]
    omega
  have hd : doorOf (hdOf C) d 1 = 0 := by unfold doorOf; rw [hv, hp]; simp [ho]
  obtain ⟨pre, h1, h2, h3⟩ := scan_from (by omega) C h.good h.fit (startP d.interval a) (startP_pos (by omega))
  have hle : ∀ x ∈ pre, ¬ a < x.1 := fun x hx => by
    have h4 := h2 x hx
    unfold startP at h4
    split at h4
    · have := Int.ediv_mul_le a (show d.interval ≠ 0 by omega); omega
    · rename_i hlt
      -- no address lies on page 0
      have h5 : x ∈ recsA d.interval C := by rw [h1]; simp [hx]
      have h6 := recsA_ge (by omega) h.fit x h5
      omega
  unfold nextOf
  rw [hd, if_neg (by simp), e2, h1, List.find?_append, find_none hle, h3]
  simp only [Option.none_or]
  generalize List.find? _ _ = o
  cases o <;> simp
/-- What Get answers over a made cluster. -/
theorem get_made {d : DS} {C : List Recs} (h : Made d C) (hv : validB d = true) (ho : d.org = 1) (hc : (C.map List.length).sum ≤ 1000) {x : Int × List UInt8} (hx : x ∈ recsA d.interval C) :
    getOf (memOf d.interval C) (hdOf C) d x.1 = (x.2, 0) := by
  have hcl := count_len C (fun L hL => (h.good L hL).1)
  obtain ⟨_, _, v3, _, _, _⟩ := valid_spec hv
  have hi0 : 128 ≤ d.interval := by rcases isSize_spec v3 with h | h | h <;> omega
  have e1 : (hdOf C).count = ((C.map List.length).sum : Int) := rfl
  have e2 : (hdOf C).fin = (C.length : Int) := rfl
  have hp : plainB (hdOf C) = true := by
    unfold plainB
    rw [e1, e2]
    simp only [Bool.and_eq_true, decide_eq_true_eq]
    omega
  have hd : doorOf (hdOf C) d 1 = 0 := by unfold doorOf; rw [hv, hp]; simp [ho]
  obtain ⟨p, k, h1, h2, h3, rfl⟩ := recsA_mem hx
  have hl := load_at (p := p) h.good h1 h2
  generalize hL : C.reverse.getD (p - 1) [] = L at *
  have hkl : p - 1 < C.reverse.length := by simp; omega
  have hm : L ∈ C := by
    rw [← hL, List.getD, List.getElem?_eq_getElem hkl]
    exact List.mem_reverse.1 (List.getElem_mem hkl)
  obtain ⟨f1, f2⟩ := h.fit L hm
  have hs := sumLen_takeLe L (k + 1)
  have hg1 : 1 ≤ (L.getD k []).length := f1 _ (by simp [List.getD, h3])
  rw [sumLen_take1 L k h3] at hs
  have hdiv : ((p : Int) * d.interval + (sumLen (L.take k) : Int)) / d.interval = p := by
    rw [Int.add_comm, Int.add_mul_ediv_right _ _ (by omega), Int.ediv_eq_zero_of_lt (by omega) (by omega)]; simp
  have hmod : ((p : Int) * d.interval + (sumLen (L.take k) : Int)) % d.interval = (sumLen (L.take k) : Int) := by
    rw [Int.add_comm, Int.add_mul_emod_self_right, Int.emod_eq_of_lt (by omega) (by omega)]
  have hge : ¬ ((p : Int) * d.interval + (sumLen (L.take k) : Int) < d.interval) := by
    have : 1 * d.interval ≤ (p : Int) * d.interval := Int.mul_le_mul_of_nonneg_right (by omega) (by omega)
    omega
  have hidx : idxOf L (sumLen (L.take k)) = some k := by
    have := idxFrom_at L 0 0 k h3 f1
    simpa [idxOf] using this
  have hf : findOf (memOf d.interval C) d.interval (hdOf C).fin ((p : Int) * d.interval + (sumLen (L.take k) : Int)) = (L, k, 0) := by
    have := findOf_some (m := memOf d.interval C) (size := d.interval) (fin := (hdOf C).fin) (a := (p : Int) * d.interval + (sumLen (L.take k) : Int)) (i := k) (by rw [hdiv, e2]; omega) (by rw [hdiv, hl]) (by rw [hdiv, hl, hmod]; simpa using hidx)
    rw [this, hdiv, hl]
  unfold getOf
  rw [hd, if_neg (by simp), hf]
  simp
end Go.Proofs.YtkhlglkipeoalaaDoor
/- The walk of the law EntryseqOrder. -/
namespace Dsd
/-- The address behind which the next record is looked for. -/
def atR (R : List (Int × List UInt8)) (j : Nat) : Int := if j = 0 then 0 else (R.getD (j - 1) (0, [])).1
theorem getD_mem {R : List (Int × List UInt8)} {j : Nat} (h : j < R.length) : R.getD j (0, []) ∈ R := by
  rw [List.getD, List.getElem?_eq_getElem h]; exact List.getElem_mem h
theorem find_atR {R : List (Int × List UInt8)} (h : Inc R) (hp : ∀ x ∈ R, 0 < x.1) (j : Nat) (hj : j ≤ R.length) : R.find? (fun x => decide (atR R j < x.1)) = R[j]? := by
  cases j with
  | zero =>
    cases R with
    | nil => rfl
    | cons x R =>
      have := hp x (by simp)
      simp [atR, List.find?_cons, this]
  | succ j =>
    have hlt : j < R.length := hj
    have := find_inc h j hlt
    rw [← this]
    simp [atR, List.getD, hlt]
end Dsd
namespace Go.Proofs.YtkhlglkipeoalaaDoor
open Go.RowKit Dsd
/-- What Next and Get answer on the way through a made cluster. -/
structure OrdF (m : Recs) (H : Hd) (d : DS) (R : List (Int × List UInt8)) : Prop where
  next : ∀ j, j < R.length → nextOf m H d (atR R j) = (R.getD j (0, []), 0)
  last : nextOf m H d (atR R R.length) = ((0, []), 6)
  get : ∀ j, j < R.length → getOf m H d (R.getD j (0, [])).1 = ((R.getD j (0, [])).2, 0)
  wr : ∀ j, j ≤ R.length → ∀ s : Int, 0 < s → Go.IntKind.i64.wrap ((atR R j).tdiv s) = (atR R j).tdiv s
theorem ordF_made {d : DS} {C : List Recs} (h : Made d C) (hv : validB d = true) (ho : d.org = 1) (hc : (C.map List.length).sum ≤ 40) : OrdF (memOf d.interval C) (hdOf C) d (recsA d.interval C) := by
  obtain ⟨_, _, v3, _, _, _⟩ := valid_spec hv
  have hi : 128 ≤ d.interval ∧ d.interval ≤ 512 := by rcases isSize_spec v3 with h | h | h <;> omega
  have hcl := count_len C (fun L hL => (h.good L hL).1)
  have hI := recsA_inc (by omega) h.fit
  have hb : ∀ x ∈ recsA d.interval C, 0 < x.1 ∧ x.1 ≤ 100000 := fun x hx => by
    have h1 := recsA_ge (by omega) h.fit x hx
    have h2 := (recsA_lt h.fit x hx).1
    have h3 : ((C.length + 1 : Nat) : Int) * d.interval ≤ 41 * 512 := Int.mul_le_mul (by omega) (by omega) (by omega) (by omega)
    omega
  have hn := fun a => next_made h hv ho (by omega) a
  have hg := fun x hx => get_made h hv ho (by omega) (x := x) hx
  generalize recsA d.interval C = R at *
  refine ⟨fun j hj => ?_, ?_, fun j hj => hg _ (getD_mem hj), fun j hj s hs => ?_⟩
  · rw [hn, find_atR hI (fun x hx => (hb x hx).1) j (by omega)]
    simp [List.getD, hj]
  · rw [hn, find_atR hI (fun x hx => (hb x hx).1) _ (Nat.le_refl _)]
    simp
  · have h0 : 0 ≤ atR R j ∧ atR R j ≤ 100000 := by
      unfold atR
      split
      · omega
      · have := hb _ (getD_mem (R := R) (j := j - 1) (by omega)); omega
    rw [Int.tdiv_eq_ediv_of_nonneg h0.1]
    have h1 : atR R j / s ≤ atR R j := Int.ediv_le_self _ h0.1
    have h2 : 0 ≤ atR R j / s := Int.ediv_nonneg h0.1 (by omega)
    exact Go.IntWalk.i64_in _ (by omega)
/-- Does the law speak of this input? -/
def ordB (d : DS) (L : Recs) : Bool := shortB L 40 300 && validB d && decide (d.org = 1)
set_option maxRecDepth 100000 in
set_option maxHeartbeats 4000000 in
theorem EntryseqOrder_no (p : Option Addr) (cap n : Nat) (L : Recs) (d : DS) (w : World) (hs : Strs w p L) (hn : L.length = n) (hl : L.length ≤ maxLen) (hno : ordB d L = false) :
    Calls Tryd.prog 9 #[.agg #[.int .i64 d.id, .int .i64 d.org, .int .i64 d.format, .int .i64 d.length, .int .i64 d.block, .int .i64 d.keyAt, .int .i64 d.keyLength, .int .i64 d.interval, .int .i64 d.area, .int .i64 d.freeInterval, .int .i64 d.freeArea, .int .i64 d.base, .int .i64 d.altAt, .int .i64 d.altLength, .bool d.unique, .int .i64 d.cls, .string ⟨d.volume.toArray⟩, .string ⟨d.owner.toArray⟩, .int .i64 d.created, .int .i64 d.expires, .bool d.archived], .slice p n cap] w fun e w' => e = .returned (.bool true) ∧ Ext w w' := by
  have HS1 := Lib.hid (fun w h => small_any p cap n L w h hn hl)
  have Hs := Lib.hid hs
  have HV := Lib.hid (fun w => Valid_ref d w)
  unfold ordB at hno
  clear hs
  generalize shortB L 40 300 = s1 at *
  generalize validB d = s3 at *
  have hoI : (d.org != 1) = !decide (d.org = 1) := by by_cases h : d.org = 1 <;> simp [h]
  generalize decide (d.org = 1) = s4 at *
  cases s1
  · clear hno
    go_enter Tryd.func9, Tryd.ntmps9
    go_upto_region 1 with (fail)
    refine wp_name (fun w0 => Ext w w0 ∧ DsAt w0 w.heap.size d) ⟨Ext.alloc _ _, Blk.new _ _⟩ ?_
    rintro w0 ⟨he0, hb2⟩
    go_wp2_with (first | (go_at_call 10; refine (awake_any _).mono ?_; rintro e w1 ⟨rfl, he1⟩) | (go_at_call 11; refine (HS1.out _ (Hs.out.ext (he0.trans he1))).mono ?_; rintro e w2 ⟨rfl, rfl⟩) | (refine wpList_ds rfl (.tmp 2) rfl _ rfl d (hb2.ext he1) ?_) | (go_at_call 17; refine (HV.out _).mono ?_; rintro e w3 ⟨rfl, he3⟩; have c1 : w3.cell? ⟨w.heap.size, 1, none⟩ = some (.int .i64 d.org) := Blk.val ((hb2.ext he1).ext he3) 1 _ rfl; have c3 : w3.cell? ⟨w.heap.size, 3, none⟩ = some (.int .i64 d.length) := Blk.val ((hb2.ext he1).ext he3) 3 _ rfl))
    go_ret
    exact ⟨rfl, he0.trans he1⟩
  · cases s3
    · clear hno
      go_enter Tryd.func9, Tryd.ntmps9
      go_upto_region 1 with (fail)
      refine wp_name (fun w0 => Ext w w0 ∧ DsAt w0 w.heap.size d) ⟨Ext.alloc _ _, Blk.new _ _⟩ ?_
      rintro w0 ⟨he0, hb2⟩
      go_wp2_with (first | (go_at_call 10; refine (awake_any _).mono ?_; rintro e w1 ⟨rfl, he1⟩) | (go_at_call 11; refine (HS1.out _ (Hs.out.ext (he0.trans he1))).mono ?_; rintro e w2 ⟨rfl, rfl⟩) | (refine wpList_ds rfl (.tmp 2) rfl _ rfl d (hb2.ext he1) ?_) | (go_at_call 17; refine (HV.out _).mono ?_; rintro e w3 ⟨rfl, he3⟩; have c1 : w3.cell? ⟨w.heap.size, 1, none⟩ = some (.int .i64 d.org) := Blk.val ((hb2.ext he1).ext he3) 1 _ rfl; have c3 : w3.cell? ⟨w.heap.size, 3, none⟩ = some (.int .i64 d.length) := Blk.val ((hb2.ext he1).ext he3) 3 _ rfl))
      go_ret
      exact ⟨rfl, (he0.trans he1).trans he3⟩
    · cases s4
      · clear hno
        go_enter Tryd.func9, Tryd.ntmps9
        go_upto_region 1 with (fail)
        refine wp_name (fun w0 => Ext w w0 ∧ DsAt w0 w.heap.size d) ⟨Ext.alloc _ _, Blk.new _ _⟩ ?_
        rintro w0 ⟨he0, hb2⟩
        go_wp2_with (first | (go_at_call 10; refine (awake_any _).mono ?_; rintro e w1 ⟨rfl, he1⟩) | (go_at_call 11; refine (HS1.out _ (Hs.out.ext (he0.trans he1))).mono ?_; rintro e w2 ⟨rfl, rfl⟩) | (refine wpList_ds rfl (.tmp 2) rfl _ rfl d (hb2.ext he1) ?_) | (go_at_call 17; refine (HV.out _).mono ?_; rintro e w3 ⟨rfl, he3⟩; have c1 : w3.cell? ⟨w.heap.size, 1, none⟩ = some (.int .i64 d.org) := Blk.val ((hb2.ext he1).ext he3) 1 _ rfl; have c3 : w3.cell? ⟨w.heap.size, 3, none⟩ = some (.int .i64 d.length) := Blk.val ((hb2.ext he1).ext he3) 3 _ rfl))
        go_ret
        exact ⟨rfl, (he0.trans he1).trans he3⟩
      · simp at hno
set_option maxRecDepth 100000 in
set_option maxHeartbeats 4000000 in
theorem EntryseqOrder_yes (p : Option Addr) (cap n : Nat) (L : Recs) (d : DS) (w : World) (hs : Strs w p L) (hn : L.length = n) (hl : L.length ≤ maxLen) (h1 : shortB L 40 300 = true) (hv : validB d = true) (ho : d.org = 1) :
    Calls Tryd.prog 9 #[.agg #[.int .i64 d.id, .int .i64 d.org, .int .i64 d.format, .int .i64 d.length, .int .i64 d.block, .int .i64 d.keyAt, .int .i64 d.keyLength, .int .i64 d.interval, .int .i64 d.area, .int .i64 d.freeInterval, .int .i64 d.freeArea, .int .i64 d.base, .int .i64 d.altAt, .int .i64 d.altLength, .bool d.unique, .int .i64 d.cls, .string ⟨d.volume.toArray⟩, .string ⟨d.owner.toArray⟩, .int .i64 d.created, .int .i64 d.expires, .bool d.archived], .slice p n cap] w fun e w' => e = .returned (.bool true) ∧ Ext w w' := by
  obtain ⟨hL, hLs⟩ := short_at h1
  have HS1 := Lib.hid (fun w h => small_any p cap n L w h hn hl)
  rw [h1] at HS1
  have HV := Lib.hid (fun w => Valid_ref d w)
  rw [hv] at HV
  have hMd := builtC_made d hv L.length L (Nat.le_refl _)
  rw [List.take_length] at hMd
  obtain ⟨hMd, hcnt⟩ := hMd
  have HBu := Lib.hid (fun w h => build_any p cap n L d w h hn hv ho hL hLs)
  have HAll := Lib.hid (all_made hMd hv ho (by omega))
  have HOr := Lib.hid (ordF_made hMd hv ho (by omega))
  have hcl := count_len (builtC d L) (fun M hM => (hMd.good M hM).1)
  have Hs := Lib.hid hs
  have hoI : (d.org != 1) = false := by simp [ho]
  subst hn
  have hsm1 := memOf_small d.interval (builtC d L) (by omega)
  have hml1 : (memOf d.interval (builtC d L)).length ≤ 1000 := by rw [length_memOf]; omega
  have hrl := recsA_len d.interval (builtC d L)
  have hpc : pairsC d.interval (builtC d L) = (recsA d.interval (builtC d L)).map pairA := rfl
  have hhc : (hdOf (builtC d L)).count = ((recsA d.interval (builtC d L)).length : Int) := by rw [hrl]; rfl
  have Hsm1 := Lib.hid hsm1
  generalize builtC d L = C at *
  clear hs h1 hv ho hMd hLs hsm1 hcl
  go_enter Tryd.func9, Tryd.ntmps9
  go_upto_region 1 with (fail)
  refine wp_name (fun w0 => Ext w w0 ∧ DsAt w0 w.heap.size d) ⟨Ext.alloc _ _, Blk.new _ _⟩ ?_
  rintro w0 ⟨he0, hb2⟩
  go_upto_region 5 with (first | (go_at_call 10; refine (awake_any _).mono ?_; rintro e w1 ⟨rfl, he1⟩) | (go_at_call 11; refine (HS1.out _ (Hs.out.ext (he0.trans he1))).mono ?_; rintro e w2 ⟨rfl, rfl⟩) | (refine wpList_ds rfl (.tmp 2) rfl _ rfl d (hb2.ext he1) ?_) | (go_at_call 17; refine (HV.out _).mono ?_; rintro e w3 ⟨rfl, he3⟩; have c1 : w3.cell? ⟨w.heap.size, 1, none⟩ = some (.int .i64 d.org) := Blk.val ((hb2.ext he1).ext he3) 1 _ rfl))
  refine wp_name (fun w4 => Ext w w4 ∧ DsAt w4 w.heap.size d) ⟨(he0.trans he1).trans he3, (hb2.ext he1).ext he3⟩ ?_
  clear hb2 he0 he1 he3 c1
  rintro w4 ⟨he4, hb4⟩
  go_upto_region 6 with (first | (refine wpList_ds rfl (.tmp 2) rfl _ rfl d hb4 ?_) | (go_at_call 18; refine (HBu.out _ (Hs.out.ext he4)).mono ?_; rintro e w5 ⟨he5, q1, k1, c1, q2, k2, c2, rfl, ho1, ho2⟩) | (refine wpList_put rfl 28 (.tmp 5) (.tmp 37) rfl _ #[.int .i64 (hdOf C).applied, .int .i64 (hdOf C).count, .int .i64 (hdOf C).fin, .int .i64 (hdOf C).root, .int .i64 (hdOf C).height, .int .i64 (hdOf C).splits, .int .i64 (hdOf C).areas] rfl rfl _ _ (Blk.new w5 _) hdSize rfl (hd_one (hdOf C)) ?_; intro w6 hb6 hc6))
  have hx5 := he4.trans he5
  obtain ⟨q1', c1', hq1⟩ := own_slice ho1
  cases hq1
  obtain ⟨q2', c2', hq2⟩ := own_slice ho2
  cases hq2
  obtain ⟨H, hH⟩ : ∃ H : Hd, H = hdOf C := ⟨_, rfl⟩
  obtain ⟨R, hR⟩ : ∃ R : List (Int × List UInt8), R = recsA d.interval C := ⟨_, rfl⟩
  rw [← hH] at HAll HOr hhc
  rw [← hR] at HOr hhc hrl hpc
  rw [← hH] at hb6
  refine wp_name (fun w7 => Ext w w7 ∧ HdAt w7 w5.heap.size H ∧ DsAt w7 w.heap.size d ∧ w7.ownsRow w.heap.size 9 1 (.slice q1 (memOf d.interval C).length c1) (memOf d.interval C).length ((memOf d.interval C).map fun s => .string ⟨s.toArray⟩) ∧ w7.ownsRow w.heap.size 61 2 (.slice q2 (pairsC d.interval C).length c2) (pairsC d.interval C).length (prCells (pairsC d.interval C)))
    ⟨hc6.ext (hx5.trans (Ext.alloc _ _)) hx5.size, hb6, hc6.blk (Blk.alloc (hb4.ext he5) _) (by have := Blk.lt (hb4.ext he5); omega), own_chgT (own_le (own_ext ho1 (Ext.alloc _ _)) he4.size) (by decide) (Blk.new w5 _) hc6, own_chgT (own_le (own_ext ho2 (Ext.alloc _ _)) he4.size) (by decide) (Blk.new w5 _) hc6⟩ ?_
  have hwb : w.heap.size < w5.heap.size := Blk.lt (hb4.ext he5)
  generalize w5.heap.size = hb at *
  clear he4 he5 hx5 hb4 ho1 ho2 hb6 hc6 hH hR
  rintro w7 ⟨he7, hb7, hd7, hm7, hp7⟩
  have hsq := own_strs3 hm7
  obtain ⟨_, _, eq1, hP7, _⟩ := own_prs hp7
  cases eq1
  have Hsm := Hsm1.out
  have HAl := Lib.hid (fun w' (e : Ext w7 w') => (All_any q1 (memOf d.interval C).length c1 (memOf d.interval C) H d w' (hsq.ext e) rfl Hsm (by omega)).mono (fun e' w'' a => allOut_F (B := w.heap.size) (he7.trans e).size a))
  rw [HAll.out] at HAl
  have HNx := Lib.hid (fun j (hj : j ≤ R.length) w' (e : Ext w7 w') => Next_any q1 (memOf d.interval C).length c1 (memOf d.interval C) H d (atR R j) (HOr.out.wr j hj) w' (hsq.ext e) rfl Hsm)
  have HGt := Lib.hid (fun j (hj : j < R.length) w' (e : Ext w7 w') => Get_any q1 (memOf d.interval C).length c1 (memOf d.interval C) H d (atR R (j + 1)) (HOr.out.wr (j + 1) hj) w' (hsq.ext e) rfl Hsm)
  have hpl : (pairsC d.interval C).length = R.length := by rw [hpc, List.length_map]
  have Hpc := Lib.hid hpc
  generalize pairsC d.interval C = PC at *
  generalize memOf d.interval C = m at *
  have HhC : (H.count != (PC.length : Int)) = false := by rw [hhc, hpl]; simp
  have Hpl := Lib.hid hpl
  have Hrl := Lib.hid (show R.length ≤ 40 by omega)
  have HP7 := Lib.hid hP7
  have Hb7 := Lib.hid hb7
  have Hd7 := Lib.hid hd7
  have He7 := Lib.hid he7
  have hhb7 : hb < w7.heap.size := Blk.lt hb7
  clear hm7 hp7 hpl hhc hrl hpc hP7 hcnt hml1 he7
  go_upto_region 7 with (first | (refine wpList_hd rfl (.tmp 5) rfl _ rfl H hb7 ?_) | (refine wpList_ds rfl (.tmp 2) rfl _ rfl d hd7 ?_) | (go_at_call 25; refine (HAl.out _ (Ext.refl _)).mono ?_; rintro e w8 ⟨v, rfl, he8, q3, c3, rfl, ho3⟩))
  obtain ⟨_, _, eq3, hP3, _⟩ := own_prs ho3
  cases eq3
  have HSP := Lib.hid (SamePairs_any q3 q2 c3 PC.length c2 PC.length PC PC w8 hP3 (HP7.out.ext he8) rfl rfl (by have := Hrl.out; have := Hpl.out; omega) (by have := Hrl.out; have := Hpl.out; omega))
  have cc : ∀ n, (w8.drewN n).cell? ⟨hb, 1, none⟩ = some (.int .i64 H.count) := fun n => Blk.val ((hb7.ext he8).ext (Ext.drewN _ n)) 1 _ rfl
  have hhb8 : hb < w8.heap.size := Nat.lt_of_lt_of_le hhb7 he8.size
  have He8 := Lib.hid he8
  clear hP3 ho3 hb7 hd7 he8
  have hPC : (PC == PC) = true := by simp
  go_upto_region 9 with (go_at_call 26; refine HSP.out.mono ?_; rintro e w9 ⟨rfl, n9, rfl⟩; rw [hPC])
  refine wp_name (fun w10 => Ext w7 w10) (He8.out.trans (Ext.drewN _ _)) ?_
  clear cc hhb8 He8 HSP HhC
  intro w10 he10
  have He10 := Lib.hid he10
  clear he10
  go_wp2_with fail
  go_loopw [11, 12] (fun v i wr => ∃ j : Nat, j ≤ PC.length ∧ i = .int .i64 j ∧ v = .int .i64 (atR R j) ∧ Ext w7 wr) (fun _ i _ => PC.length - (intOf i).toNat)
  case atStart => exact ⟨0, Nat.zero_le _, rfl, rfl, He10.out⟩
  case round =>
    obtain ⟨j, hj, rfl, rfl, hext⟩ := hrel
    have hpb : PC.length ≤ 40 := by have := Hrl.out; have := Hpl.out; omega
    by_cases hlt : j < PC.length
    · have hltI : (j : Int) < PC.length := by omega
      have hltR : j < R.length := by rw [← Hpl.out]; exact hlt
      obtain ⟨b, off, rfl, hbb, hc⟩ := HP7.out.at j hlt
      have hcc := hc j hlt
      have HN := HNx.out j (by omega)
      have HG := HGt.out j hltR
      unfold NextOut at HN
      rw [HOr.out.next j hltR] at HN
      have hat : atR R (j + 1) = (R.getD j (0, [])).1 := rfl
      have hgo := HOr.out.get j hltR
      rw [hat, hgo] at HG
      have hpj : PC.getD j ([], []) = pairA (R.getD j (0, [])) := by rw [Hpc.out]; simp [List.getD, hltR]
      rw [hpj] at hcc
      rw [show pairA (R.getD j (0, [])) = (slotL (R.getD j (0, [])).1, (R.getD j (0, [])).2) from rfl] at hcc
      have Hat := Lib.hid hat
      generalize R.getD j (0, []) = xs at *
      obtain ⟨x, s⟩ := xs
      simp only at hcc HN HG Hat
      obtain ⟨cc1, cc2⟩ := hcc
      have HN := Lib.hid HN
      have HG := Lib.hid HG
      have HSl := Lib.hid (Slot_ref x)
      have hb8 := Hb7.out.ext hext
      have hd8 := Hd7.out.ext hext
      have Hext := Lib.hid hext
      have Hhb := Lib.hid (Nat.lt_of_lt_of_le hhb7 hext.size)
      clear hc hat hgo hpj hltR hext
      generalize slotL x = sl at *
      go_upto_region 14 with (first | (refine wpList_hd rfl (.tmp 5) rfl _ rfl H hb8 ?_) | (refine wpList_ds rfl (.tmp 2) rfl _ rfl d hd8 ?_) | (go_at_call 31; refine (HN.out _ Hext.out).mono ?_; rintro e wa ⟨rfl, hea⟩))
      have hb9 := hb8.ext hea
      have hd9 := hd8.ext hea
      have Hea := Lib.hid (Hext.out.trans hea)
      clear hb8 hd8 hea
      go_upto_region 15 with (first | (refine wpList_hd rfl (.tmp 5) rfl _ rfl H hb9 ?_) | (refine wpList_ds rfl (.tmp 2) rfl _ rfl d hd9 ?_) | (go_at_call 29; refine (HG.out _ Hea.out).mono ?_; rintro e wc ⟨rfl, hec⟩))
      have Hec := Lib.hid (Hea.out.trans hec)
      have hk1 := (Hec.out.cell b _ hbb).trans cc1
      have hk2 := (Hec.out.cell b _ hbb).trans cc2
      have hbc := Nat.lt_of_lt_of_le hbb Hec.out.size
      clear hb9 hd9 hec cc1 cc2 hbb
      refine wp_region_pk 200 [] (Ext.refl wc) (by kernel_rfl) (by kernel_rfl) (by kernel_rfl) (by kernel_rfl) (by kernel_rfl) (by kernel_rfl) (gok_any _ _ _) ?_
      simp only [List.take_succ_cons, List.take_zero, List.take_nil, List.drop_succ_cons, List.drop_zero, List.drop_nil, List.map_cons, List.map_nil]
      repeat (first
        | (refine wpPL_move _ _ (by kernel_rfl) (by first | exact .inl rfl | exact .inr ⟨_, _, _, rfl, rfl, rfl⟩) (by first | exact .inl rfl | exact .inr rfl) rfl (by first | exact Is.stable _ | exact RowsF.stable _ _ _ _ _ | exact NoneF.stable _ _ | exact Fresh.stable _ _ _ | exact AppF.stable _ | exact WrF.stable _ | exact PtrF.stable _ _ | exact PlF.stable _ _) (by first | exact .inr (Is.strong _ _ _) | exact .inr (AppF.strong _ _ _ _ (by decide)) | exact .inr (WrF.strong _ _ _ _ (by decide)) | exact .inr (RowsF.strong _ _ _ _ _ _ _ _ (by decide)) | exact .inl (by kernel_rfl)) ?_
           simp only [setL, List.set_cons_succ, List.set_cons_zero, List.getD_cons_succ, List.getD_cons_zero])
        | (apply wpPL_det (by kernel_rfl) (by first | exact .inl rfl | exact .inr ⟨_, _, _, rfl, rfl, rfl⟩)
           · intro a w' he hr K hK
             simp [Reads, Oper.looksAt, Op.operands, Call.operands, factAt, Is] at hr
             have hx := he.cell
             go_simp
             try go_bits
             try (rw [if_neg (by omega)]; go_simp)
             first
               | exact hK _ (Ext.refl _)
               | (refine (HSl.out _).mono ?_; rintro e w'' ⟨rfl, he'⟩; exact hK _ he')
           simp only [setL, List.set_cons_succ, List.set_cons_zero]))
      intro w2 he2
      simp only [killL, killIn, List.foldl_cons, List.foldl_nil, List.set_cons_succ, List.set_cons_zero]
      repeat (first | with_reducible refine rest_is _ _ _ _ ?_ | (with_reducible refine rest_fact _ _ _ _ ?_; intro _ _) | with_reducible refine rest_end _ _ ?_)
      simp only [List.reverse_cons, List.reverse_nil, List.nil_append, List.cons_append]
      have HE := Lib.hid (Hec.out.trans he2)
      clear he2 hk1 hk2 hbc
      go_wp2_with fail
      go_roundw
      case rel => exact ⟨j + 1, by omega, by go_num, by rw [Hat.out], HE.out⟩
      case measure => simp [intOf]; omega
    · obtain rfl : j = PC.length := by omega
      have hltI : decide ((PC.length : Int) < PC.length) = false := decide_eq_false (by omega)
      have HN := HNx.out R.length (Nat.le_refl _)
      unfold NextOut at HN
      rw [HOr.out.last] at HN
      have HN := Lib.hid HN
      rw [Hpl.out]
      rw [Hpl.out] at hltI
      have hb8 := Hb7.out.ext hext
      have hd8 := Hd7.out.ext hext
      have Hext := Lib.hid hext
      clear hext
      go_wp2_with (first | (refine wpList_hd rfl (.tmp 5) rfl _ rfl H hb8 ?_) | (refine wpList_ds rfl (.tmp 2) rfl _ rfl d hd8 ?_) | (go_at_call 31; refine (HN.out _ Hext.out).mono ?_; rintro e wa ⟨rfl, hea⟩))
      go_ret
      exact ⟨rfl, (He7.out.trans Hext.out).trans hea⟩
theorem EntryseqOrder_any (p : Option Addr) (cap n : Nat) (L : Recs) (d : DS) (w : World) (hs : Strs w p L) (hn : L.length = n) (hcap : n ≤ cap) (hcm : cap ≤ maxLen) :
    Calls Tryd.prog 9 #[.agg #[.int .i64 d.id, .int .i64 d.org, .int .i64 d.format, .int .i64 d.length, .int .i64 d.block, .int .i64 d.keyAt, .int .i64 d.keyLength, .int .i64 d.interval, .int .i64 d.area, .int .i64 d.freeInterval, .int .i64 d.freeArea, .int .i64 d.base, .int .i64 d.altAt, .int .i64 d.altLength, .bool d.unique, .int .i64 d.cls, .string ⟨d.volume.toArray⟩, .string ⟨d.owner.toArray⟩, .int .i64 d.created, .int .i64 d.expires, .bool d.archived], .slice p n cap] w fun e w' => e = .returned (.bool true) ∧ Ext w w' := by
  cases hc : ordB d L
  · exact EntryseqOrder_no p cap n L d w hs hn (by omega) hc
  · unfold ordB at hc
    simp only [Bool.and_eq_true, decide_eq_true_eq] at hc
    obtain ⟨⟨h1, h2⟩, h3⟩ := hc
    exact EntryseqOrder_yes p cap n L d w hs hn (by omega) h1 h2 h3
end Go.Proofs.YtkhlglkipeoalaaDoor
/- The statement EntryseqOrder: its walk joined to the given row and card. -/
namespace Go.Proofs.YtkhlglkipeoalaaDoor.entryseqOrder
open Go.ChangeShapes Go.WideShapes Go.ChangeAt Go.RowKit Dsd
open Go.ChangeMaps (open_string shut_string)
set_option maxRecDepth 100000
theorem own : ownKnob Tryd.prog.godebug = none := by kernel_rfl
theorem laidOut : laidOutB Tryd.prog = true := by kernel_rfl

/-- What the walk gives, for every argument and every world. -/
theorem contract (H : Type) (enc : TypeId × Value → H) (W : World) (base : Nat) (args : Array Value) (ds gs : List (DataW H)) (before : List MemPlace)
    (hval : ∀ (j : Nat) t v, Tryd.f9.params[j]? = some t → args[j]? = some v → Value.okWide Tryd.prog W .any base t v)
    (hW : DataW.Whole enc Tryd.prog Tryd.f9.params.toList Rows.entryseqOrderSpec.vars false W args.toList ds gs before) :
    Calls Tryd.prog 9 args W fun e W' => ∃ v, e = .returned v ∧ Rows.entryseqOrderSpec.post enc Tryd.prog Tryd.f9 false true false false W args v W' := by
  have hW' := hW
  obtain ⟨p, q, hA0, hV, rfl, hfz, hnd⟩ := hW
  have hA : DataW.TrodAll enc Tryd.prog W 0 (fun _ => true) true Tryd.f9.params.toList args.toList ds p := hA0
  rw [Tryd.params9] at hA hval
  obtain ⟨v0, vs0, d0, ds0, p0, q0, hargs, rfl, rfl, h0, r0⟩ := trodAll_cons hA
  obtain ⟨v1, vs1, d1, ds1, p1, q1, rfl, rfl, rfl, h1, r1⟩ := trodAll_cons r0
  obtain ⟨rfl, rfl, rfl⟩ := trodAll_nil r1
  obtain rfl : args = #[v0, v1] := by cases args; simp_all
  obtain ⟨rfl, rfl⟩ := trodVars_none hV
  have k0 := h0
  have lt0 : ∀ x ∈ p0, x.block < W.heap.size := by obtain ⟨m, hm⟩ := k0; exact DataW.trod_lt m _ _ _ hm
  obtain ⟨x0, rfl⟩ := open_ds (hval 0 23 v0 rfl rfl) h0
  obtain ⟨a1, len1, cap1, rfl⟩ := okWide_slice Tryd.underlying24 (hval 1 24 v1 rfl rfl)
  have k1 := h1
  have lt1 : ∀ x ∈ p1, x.block < W.heap.size := by obtain ⟨m, hm⟩ := k1; exact DataW.trod_lt m _ _ _ hm
  obtain ⟨L1, hs1, hl1, hc1, hm1, hw1⟩ := open_strs Tryd.underlying24 Tryd.underlying9 (by kernel_rfl) h1
  clear hA0 hval
  have walk := EntryseqOrder_any a1 cap1 len1 L1 x0 W hs1 hl1 hc1 hm1
  refine walk.mono fun e W' ⟨he, bel⟩ => ?_
  subst he
  exact ⟨_, rfl, _, _, _, [], _, [], hW', trodAll_mk1 (shut_bool Tryd.underlying4 _), (trodAll_cons_mk (Below.trod laidOut (by kernel_rfl) (of_decide_eq_true (by kernel_rfl)) k0 bel lt0) (trodAll_cons_mk (Below.trod laidOut (by kernel_rfl) (of_decide_eq_true (by kernel_rfl)) k1 bel lt1) trodAll_mk0)), rfl, bel.frame _, fun h => by cases h⟩

/-- The world of the witness: its tables laid. -/
noncomputable def laidWorld (os : Os) : World := World.laidAll Tryd.prog os Rows.entryseqOrderRow.laid
theorem laid_met (os : Os) : laidMet Tryd.prog Rows.entryseqOrderRow.laid ((laidWorld os).forCall (fun _ _ => 0) ⟨#[], #[.agg #[.int .i64 0, .int .i64 0, .int .i64 0, .int .i64 0, .int .i64 0, .int .i64 0, .int .i64 0, .int .i64 0, .int .i64 0, .int .i64 0, .int .i64 0, .int .i64 0, .int .i64 0, .int .i64 0, .bool false, .int .i64 0, .string ⟨#[]⟩, .string ⟨#[]⟩, .int .i64 0, .int .i64 0, .bool false], .slice none 0 0], []⟩).memory :=
  laidMet_laidAll _ (by kernel_rfl) (by kernel_rfl)
theorem reads (os : Os) {H : Type} (enc : TypeId × Value → H) : ∃ places, DataW.whole enc Tryd.prog ((laidWorld os).forCall (fun _ _ => 0) ⟨#[], #[.agg #[.int .i64 0, .int .i64 0, .int .i64 0, .int .i64 0, .int .i64 0, .int .i64 0, .int .i64 0, .int .i64 0, .int .i64 0, .int .i64 0, .int .i64 0, .int .i64 0, .int .i64 0, .int .i64 0, .bool false, .int .i64 0, .string ⟨#[]⟩, .string ⟨#[]⟩, .int .i64 0, .int .i64 0, .bool false], .slice none 0 0], []⟩).memory Tryd.f9.params.toList Rows.entryseqOrderSpec.vars false (#[.agg #[.int .i64 0, .int .i64 0, .int .i64 0, .int .i64 0, .int .i64 0, .int .i64 0, .int .i64 0, .int .i64 0, .int .i64 0, .int .i64 0, .int .i64 0, .int .i64 0, .int .i64 0, .int .i64 0, .bool false, .int .i64 0, .string ⟨#[]⟩, .string ⟨#[]⟩, .int .i64 0, .int .i64 0, .bool false], .slice none 0 0] : Array Value).toList 8 = some ([.agg [.lit (.int .i64 0), .lit (.int .i64 0), .lit (.int .i64 0), .lit (.int .i64 0), .lit (.int .i64 0), .lit (.int .i64 0), .lit (.int .i64 0), .lit (.int .i64 0), .lit (.int .i64 0), .lit (.int .i64 0), .lit (.int .i64 0), .lit (.int .i64 0), .lit (.int .i64 0), .lit (.int .i64 0), .lit (.bool false), .lit (.int .i64 0), .lit (.string []), .lit (.string []), .lit (.int .i64 0), .lit (.int .i64 0), .lit (.bool false)], .nil], [], places) :=
  ⟨[], by kernel_rfl⟩

theorem lifted (os : Os) (started : os.Started) (H : Type) (enc : TypeId × Value → H) (F : Stop.Interp) :
    ReturnsInHanded {} Tryd.checked os 9 .any ((OpenSpec.ofChange Rows.entryseqOrderSpec).preRow enc Tryd.prog Tryd.f9 Rows.entryseqOrderRow.domain false Rows.entryseqOrderRow.laid) (((OpenSpec.ofChange Rows.entryseqOrderSpec).at F).post enc Tryd.prog Tryd.f9 false true false false) := by
  obtain ⟨places, hx⟩ := reads os enc
  refine returnsInHanded_of_row (C := Tryd.checked) (s := OpenSpec.ofChange Rows.entryseqOrderSpec) own started (by kernel_rfl) Tryd.func9
    (witness_row_at (enc := enc) (C := Tryd.checked) false (laidWorld os) #[.agg #[.int .i64 0, .int .i64 0, .int .i64 0, .int .i64 0, .int .i64 0, .int .i64 0, .int .i64 0, .int .i64 0, .int .i64 0, .int .i64 0, .int .i64 0, .int .i64 0, .int .i64 0, .int .i64 0, .bool false, .int .i64 0, .string ⟨#[]⟩, .string ⟨#[]⟩, .int .i64 0, .int .i64 0, .bool false], .slice none 0 0] (World.laidAll_os _ _ _) (by kernel_rfl) (by kernel_rfl) (by kernel_rfl)
      (OpenSpec.preRow_of_cond 8 hx (by kernel_rfl) (fun k hk => by cases hk) (by kernel_rfl) (laid_met os))) ?_
  intro W base args ds gs before hval hW _ _ _ hL _ _
  exact contract H enc W base args ds gs before hval hW

theorem said : Rows.EntryseqOrderSaid :=
  OpenClaim.holds_of_cond 9 Tryd.f9 rfl rfl rfl rfl rfl rfl rfl ⟨rfl, rfl, rfl, rfl, rfl⟩ rfl rfl rfl rfl rfl (by kernel_rfl) Tryd.func9 (by kernel_rfl)
    (of_decide_eq_true (by kernel_rfl)) (by unfold Func.isWrapper; first | (rw [if_pos (by decide +kernel)]; kernel_rfl) | (rw [if_neg (by decide +kernel)]; exact ⟨rfl, rfl⟩))
    (fun os started H enc _ F => by rw [OpenClaim.pre_eq_preRow]; exact lifted os started H enc F)

theorem plain (f : FuncId) (fn : Func) (hf : Tryd.pinned.checked.prog.funcNamed Tryd.f9.name = some f) (hfn : Tryd.pinned.checked.prog.funcs[f]? = some fn) :
    false = Tryd.pinned.checked.prog.looks [] ∧ ∀ (j : Nat) t, fn.params[j]? = some t → Tryd.pinned.checked.prog.wantsStandIn t = false := by
  obtain rfl : f = 9 := Option.some.inj ((show Tryd.prog.funcNamed Tryd.f9.name = some 9 by kernel_rfl).symm.trans hf) |>.symm
  obtain rfl : fn = Tryd.f9 := (Option.some.inj (Tryd.func9.symm.trans hfn)).symm
  refine ⟨by kernel_rfl, fun j t ht => ?_⟩
  rw [Tryd.params9] at ht
  have hm : t ∈ #[23, 24] := Array.mem_of_getElem? ht
  have hall : (#[23, 24].all fun t => !Tryd.prog.wantsStandIn t) = true := by kernel_rfl
  have := (Array.all_eq_true'.1 hall) t hm
  exact (show Tryd.prog.wantsStandIn t = false by simpa using this)

/-- The statement. -/
theorem card : Rows.EntryseqOrderCardSaid :=
  Claim7.holds_tied_plain_at .later [] _ _ _ _ said (fun _ h => by cases h) (by kernel_rfl) (fun _ h => by cases h) entryseqOrder_row_tie rfl ⟨rfl, rfl⟩ (by kernel_rfl) rfl plain (by kernel_rfl)
end Go.Proofs.YtkhlglkipeoalaaDoor.entryseqOrder
