/- Words shared by ranges over a cluster's iterator: what All and Next hand back, the variables of Next, the iterator's types. -/
import Derived.Test.YtjgdhlpnpihkdaaDoorRG
import Derived.Test.YtjgdhlpnpihkdaaDoorXH
import Derived.Test.YtjgdhlpnpihkdaaDoorP19f
import Derived.Test.YtjgdhlpnpihkdaaDoorXK
import Derived.Test.YtjgdhlpnpihkdaaDoorR6
import Derived.BigRegion
import Derived.Shelf.RegionOpen
import Derived.Test.YtjgdhlpnpihkdaaDoorR20
import Derived.Test.YtjgdhlpnpihkdaaDoorOp2
import Derived.Test.YtjgdhlpnpihkdaaDoorR18
import Derived.Test.YtjgdhlpnpihkdaaDoorOp3
import Derived.Test.YtjgdhlpnpihkdaaDoorCards
import Derived.Test.YtjgdhlpnpihkdaaDoorTie
import Derived.WalkKit
import Derived.ProofKit
import Derived.OpenShut
import Derived.ShutString
import Derived.ChangeMaps5
import Derived.Below
import Derived.Lay
import Derived.Deep.DeepHandedRow
set_option linter.unusedSimpArgs false
set_option linter.unusedVariables false
namespace Go.Proofs.YtjgdhlpnpihkdaaDoor
open Go.RowKit Dsd
theorem own_kc {n0 : Nat} {tc : Nat → TypeId → Prop} {w w' : World} {base : Nat} {e : TypeId} {size : Nat} {v : Value} {n : Nat} {xs : List Value} (h : w.ownsRow base e size v n xs) (k : Kc n0 tc w w') (ht : ∀ b, ¬ tc b e) : w'.ownsRow base e size v n xs := by
  refine ⟨h.1, ?_⟩
  rcases h.2 with hn | ⟨b, cap, cur, rfl, hb, hg, rest⟩
  · exact .inl hn
  · exact .inr ⟨b, cap, cur, rfl, hb, k.cells b cur e _ (ht b) hg, rest⟩
/-- The types of the variables that the iterator turns. -/
def tIt (g1 eb b : Nat) (t : TypeId) : Prop := (b = g1 ∧ t = 3) ∨ (b = eb ∧ t = 32)
def pageIn (g : Nat) (w : World) : Int := match w.cell? ⟨g, 0, none⟩ with
  | some (.int _ n) => n
  | _ => 0
theorem pageIn_blk {g : Nat} {w : World} {x : Int} {t : TypeId} (h : Blk w g (.cells #[.int .i64 x] t)) : pageIn g w = x := by
  unfold pageIn
  rw [Blk.val h 0 (.int .i64 x) rfl]
/-- What the iterator tells: all have come (and the error's variable holds the scan's error); a part has come. -/
def ScS (R : List (Int × List UInt8) × Int) (eb : Nat) (xs : List (Int × List UInt8)) (w : World) : Prop := xs = R.1 ∧ Blk w eb (.cells #[.int .i64 R.2] 32)
def ScP (R : List (Int × List UInt8) × Int) (xs : List (Int × List UInt8)) (_ : World) : Prop := xs <+: R.1
/-- What All hands back: the pairs in a row of their own. -/
def AllOut (R : List (List UInt8 × List UInt8) × Int) (w : World) (e : Ending) (w' : World) : Prop :=
  Ext w w' ∧ ∃ q k c, e = .returned (.tuple #[.slice q k c, .int .i64 R.2]) ∧ k = R.1.length ∧ w'.ownsRow w.heap.size 53 2 (.slice q k c) R.1.length (prCells R.1)
theorem allOut_no {R : List (List UInt8 × List UInt8) × Int} {w w' : World} {c : Int} (he : Ext w w') (hr : R = ([], c)) : AllOut R w (.returned (.tuple #[.slice none 0 0, .int .i64 c])) w' := by
  subst hr; exact ⟨he, _, _, _, rfl, rfl, by simp [prCells], .inl ⟨rfl, rfl⟩⟩

theorem allOut_yes {R : List (List UInt8 × List UInt8) × Int} {A : List (List UInt8 × List UInt8)} {w w' : World} {q : Option Addr} {k c : Nat} (he : Ext w w') (hr : R = (A, 0)) (hk : k = A.length) (ho : w'.ownsRow w.heap.size 53 2 (.slice q k c) A.length (prCells A)) : AllOut R w (.returned (.tuple #[.slice q k c, .int .i64 0])) w' := by
  subst hr; exact ⟨he, _, _, _, rfl, hk, ho⟩
/-- What Next hands back. -/
def NextOut (R : (Int × List UInt8) × Int) (w : World) (e : Ending) (w' : World) : Prop :=
  e = .returned (.tuple #[.int .i64 R.1.1, .string ⟨R.1.2.toArray⟩, .int .i64 R.2]) ∧ Ext w w'
/-- The variables that Next hands back. -/
structure NvAt (b : Nat) (x : Int) (s : List UInt8) (e : Int) (w : World) : Prop where
  c1 : Blk w b (.cells #[.int .i64 x] 3)
  c2 : Blk w (b + 1) (.cells #[.string ⟨s.toArray⟩] 9)
  c3 : Blk w (b + 1 + 1) (.cells #[.int .i64 e] 32)
theorem NvAt.ext {b : Nat} {x : Int} {s : List UInt8} {e : Int} {w w' : World} (n : NvAt b x s e w) (h : Ext w w') : NvAt b x s e w' := ⟨h.blk _ _ n.c1, h.blk _ _ n.c2, h.blk _ _ n.c3⟩
theorem next_start (w w0 : World) (h : Hd) (d : DS) (a : Int) (hw0 : w0 = (((((w.alloc (.cells #[.int .i64 h.applied, .int .i64 h.count, .int .i64 h.fin, .int .i64 h.root, .int .i64 h.height, .int .i64 h.splits, .int .i64 h.areas] 24)).alloc (.cells #[.int .i64 d.id, .int .i64 d.org, .int .i64 d.format, .int .i64 d.length, .int .i64 d.block, .int .i64 d.keyAt, .int .i64 d.keyLength, .int .i64 d.interval, .int .i64 d.area, .int .i64 d.freeInterval, .int .i64 d.freeArea, .int .i64 d.base, .int .i64 d.altAt, .int .i64 d.altLength, .bool d.unique, .int .i64 d.cls, .string ⟨d.volume.toArray⟩, .string ⟨d.owner.toArray⟩, .int .i64 d.created, .int .i64 d.expires, .bool d.archived] 26)).alloc (.cells #[.int .i64 a] 3)).alloc (.cells #[.int .i64 0] 3)).alloc (.cells #[.string ⟨#[]⟩] 9)).alloc (.cells #[.int .i64 0] 32)) :
    Ext w w0 ∧ HdAt w0 w.heap.size h ∧ DsAt w0 (w.heap.size + 1) d ∧ Blk w0 (w.heap.size + 1 + 1) (.cells #[.int .i64 a] 3) ∧ NvAt (w.heap.size + 1 + 1 + 1) 0 [] 0 w0 := by
  have e1 := Ext.alloc w (.cells #[.int .i64 h.applied, .int .i64 h.count, .int .i64 h.fin, .int .i64 h.root, .int .i64 h.height, .int .i64 h.splits, .int .i64 h.areas] 24)
  have k1 := Blk.new w (.cells #[.int .i64 h.applied, .int .i64 h.count, .int .i64 h.fin, .int .i64 h.root, .int .i64 h.height, .int .i64 h.splits, .int .i64 h.areas] 24)
  generalize hA : w.alloc (.cells #[.int .i64 h.applied, .int .i64 h.count, .int .i64 h.fin, .int .i64 h.root, .int .i64 h.height, .int .i64 h.splits, .int .i64 h.areas] 24) = A at *
  have zA : A.heap.size = w.heap.size + 1 := by rw [← hA]; simp
  have e2 := Ext.alloc A (.cells #[.int .i64 d.id, .int .i64 d.org, .int .i64 d.format, .int .i64 d.length, .int .i64 d.block, .int .i64 d.keyAt, .int .i64 d.keyLength, .int .i64 d.interval, .int .i64 d.area, .int .i64 d.freeInterval, .int .i64 d.freeArea, .int .i64 d.base, .int .i64 d.altAt, .int .i64 d.altLength, .bool d.unique, .int .i64 d.cls, .string ⟨d.volume.toArray⟩, .string ⟨d.owner.toArray⟩, .int .i64 d.created, .int .i64 d.expires, .bool d.archived] 26)
  have k2 := Blk.new A (.cells #[.int .i64 d.id, .int .i64 d.org, .int .i64 d.format, .int .i64 d.length, .int .i64 d.block, .int .i64 d.keyAt, .int .i64 d.keyLength, .int .i64 d.interval, .int .i64 d.area, .int .i64 d.freeInterval, .int .i64 d.freeArea, .int .i64 d.base, .int .i64 d.altAt, .int .i64 d.altLength, .bool d.unique, .int .i64 d.cls, .string ⟨d.volume.toArray⟩, .string ⟨d.owner.toArray⟩, .int .i64 d.created, .int .i64 d.expires, .bool d.archived] 26)
  generalize hB : A.alloc (.cells #[.int .i64 d.id, .int .i64 d.org, .int .i64 d.format, .int .i64 d.length, .int .i64 d.block, .int .i64 d.keyAt, .int .i64 d.keyLength, .int .i64 d.interval, .int .i64 d.area, .int .i64 d.freeInterval, .int .i64 d.freeArea, .int .i64 d.base, .int .i64 d.altAt, .int .i64 d.altLength, .bool d.unique, .int .i64 d.cls, .string ⟨d.volume.toArray⟩, .string ⟨d.owner.toArray⟩, .int .i64 d.created, .int .i64 d.expires, .bool d.archived] 26) = B at *
  have zB : B.heap.size = w.heap.size + 1 + 1 := by rw [← hB]; simp [zA]
  have e3 := Ext.alloc B (.cells #[.int .i64 a] 3)
  have k3 := Blk.new B (.cells #[.int .i64 a] 3)
  generalize hC : B.alloc (.cells #[.int .i64 a] 3) = C at *
  have zC : C.heap.size = w.heap.size + 1 + 1 + 1 := by rw [← hC]; simp [zB]
  have e4 := Ext.alloc C (.cells #[.int .i64 0] 3)
  have k4 := Blk.new C (.cells #[.int .i64 0] 3)
  generalize hD : C.alloc (.cells #[.int .i64 0] 3) = D at *
  have zD : D.heap.size = w.heap.size + 1 + 1 + 1 + 1 := by rw [← hD]; simp [zC]
  have e5 := Ext.alloc D (.cells #[.string ⟨#[]⟩] 9)
  have k5 := Blk.new D (.cells #[.string ⟨#[]⟩] 9)
  generalize hE : D.alloc (.cells #[.string ⟨#[]⟩] 9) = E at *
  have zE : E.heap.size = w.heap.size + 1 + 1 + 1 + 1 + 1 := by rw [← hE]; simp [zD]
  have e6 := Ext.alloc E (.cells #[.int .i64 0] 32)
  have k6 := Blk.new E (.cells #[.int .i64 0] 32)
  subst hw0
  rw [zA] at k2; rw [zB] at k3; rw [zC] at k4; rw [zD] at k5; rw [zE] at k6
  exact ⟨e1.trans (e2.trans (e3.trans (e4.trans (e5.trans e6)))), (e2.trans (e3.trans (e4.trans (e5.trans e6)))).blk _ _ k1, (e3.trans (e4.trans (e5.trans e6))).blk _ _ k2, (e4.trans (e5.trans e6)).blk _ _ k3, (e5.trans e6).blk _ _ k4, e6.blk _ _ k5, k6⟩

theorem nv_set {b : Nat} {x0 : Int} {s0 : List UInt8} {e0 : Int} {W : World} (n : NvAt b x0 s0 e0 W) (x : Int) (s : List UInt8) (e : Int) :
    NvAt b x s e (((W.setCell ⟨b, 0, none⟩ (.int .i64 x)).setCell ⟨b + 1, 0, none⟩ (.string ⟨s.toArray⟩)).setCell ⟨b + 1 + 1, 0, none⟩ (.int .i64 e)).drew ∧
      (∀ w, Ext w W → w.heap.size ≤ b → Ext w (((W.setCell ⟨b, 0, none⟩ (.int .i64 x)).setCell ⟨b + 1, 0, none⟩ (.string ⟨s.toArray⟩)).setCell ⟨b + 1 + 1, 0, none⟩ (.int .i64 e)).drew) ∧
      ∀ B, KeepsFrom B W (((W.setCell ⟨b, 0, none⟩ (.int .i64 x)).setCell ⟨b + 1, 0, none⟩ (.string ⟨s.toArray⟩)).setCell ⟨b + 1 + 1, 0, none⟩ (.int .i64 e)).drew := by
  have k1 := Chg.setCell (w := W) (g := b) (i := 0) (v := .int .i64 x)
  have a1 : Blk (W.setCell ⟨b, 0, none⟩ (.int .i64 x)) b (.cells #[.int .i64 x] 3) := Blk.setCell n.c1
  have a2 := k1.blk n.c2 (by omega)
  have a3 := k1.blk n.c3 (by omega)
  have q1 := fun B => KeepsFrom.of_chg (B := B) k1 n.c1
  generalize W.setCell ⟨b, 0, none⟩ (.int .i64 x) = W1 at *
  have k2 := Chg.setCell (w := W1) (g := b + 1) (i := 0) (v := .string ⟨s.toArray⟩)
  have b1 := k2.blk a1 (by omega)
  have b2 : Blk (W1.setCell ⟨b + 1, 0, none⟩ (.string ⟨s.toArray⟩)) (b + 1) (.cells #[.string ⟨s.toArray⟩] 9) := Blk.setCell a2
  have b3 := k2.blk a3 (by omega)
  have q2 := fun B => KeepsFrom.of_chg (B := B) k2 a2
  generalize W1.setCell ⟨b + 1, 0, none⟩ (.string ⟨s.toArray⟩) = W2 at *
  have k3 := Chg.setCell (w := W2) (g := b + 1 + 1) (i := 0) (v := .int .i64 e)
  have d1 := k3.blk b1 (by omega)
  have d2 := k3.blk b2 (by omega)
  have d3 : Blk (W2.setCell ⟨b + 1 + 1, 0, none⟩ (.int .i64 e)) (b + 1 + 1) (.cells #[.int .i64 e] 32) := Blk.setCell b3
  have q3 := fun B => KeepsFrom.of_chg (B := B) k3 b3
  generalize W2.setCell ⟨b + 1 + 1, 0, none⟩ (.int .i64 e) = W3 at *
  exact ⟨⟨d1, d2, d3⟩, fun w he hb => ((k3.ext (k2.ext (k1.ext he hb) (by omega)) (by omega))).trans (Ext.drew _), fun B => (((q1 B).trans (q2 B)).trans (q3 B)).trans (KeepsFrom.of_ext (Ext.drew _))⟩
theorem NvAt.kc {b : Nat} {x : Int} {s : List UInt8} {e : Int} {w w' : World} {n0 g1 eb : Nat} (n : NvAt b x s e w) (k : Kc n0 (tIt g1 eb) w w') (h1 : b + 1 + 1 < g1) (h2 : b + 1 + 1 < eb) : NvAt b x s e w' :=
  ⟨k.blk n.c1 (by rintro (⟨h, _⟩ | ⟨h, _⟩) <;> omega), k.blk n.c2 (by rintro (⟨h, _⟩ | ⟨h, _⟩) <;> omega), k.blk n.c3 (by rintro (⟨h, _⟩ | ⟨h, _⟩) <;> omega)⟩
theorem find_none {l : List (Int × List UInt8)} {a : Int} (h : ∀ x ∈ l, ¬ a < x.1) : l.find? (fun x => decide (a < x.1)) = none := by
  rw [List.find?_eq_none]
  intro x hx
  simpa using h x hx
theorem find_pre {l pre : List (Int × List UInt8)} {x : Int × List UInt8} {a : Int} (h : ∀ y ∈ pre, ¬ a < y.1) (hx : a < x.1) (hp : pre ++ [x] <+: l) : l.find? (fun x => decide (a < x.1)) = some x := by
  obtain ⟨r, rfl⟩ := hp
  rw [List.append_assoc, List.find?_append, find_none h]
  simp [hx]
/-- Between two rounds. -/
def NxI (w : World) (nb ab : Nat) (a : Int) (pre : List (Int × List UInt8)) (W : World) : Prop := Ext w W ∧ Blk W ab (.cells #[.int .i64 a] 3) ∧ NvAt nb 0 [] 0 W ∧ ∀ x ∈ pre, ¬ a < x.1
/-- Where a round has returned. -/
def NxX (w : World) (nb : Nat) (a : Int) (c : Code) (pre : List (Int × List UInt8)) (W : World) : Prop := c = .ret ∧ Ext w W ∧ ∃ pre' x, pre = pre' ++ [x] ∧ (∀ y ∈ pre', ¬ a < y.1) ∧ a < x.1 ∧ NvAt nb x.1 x.2 0 W
end Go.Proofs.YtjgdhlpnpihkdaaDoor
/- Plain laws of chapter 19: the used slots of a cluster in their order; what All and Next answer. -/
namespace Dsd
/-- The used slots of a row, with their numbers. -/
def chunkU : Int → List Slt → List (Int × List UInt8)
  | _, [] => []
  | b, x :: L => (if x.1 = true then [(b + 1, x.2)] else []) ++ chunkU (b + 1) L
theorem chunkU_append : ∀ (A B : List Slt) (b : Int), chunkU b (A ++ B) = chunkU b A ++ chunkU (b + A.length) B
  | [], B, b => by simp [chunkU]
  | x :: A, B, b => by
    simp only [List.cons_append, chunkU]
    rw [chunkU_append A B, List.append_assoc, List.length_cons]
    congr 3
    push_cast; omega
theorem chunkU_take (b : Int) (L : List Slt) (k : Nat) (h : k < L.length) : chunkU b (L.take (k + 1)) = chunkU b (L.take k) ++ (if (slotAt L k).1 = true then [(b + k + 1, (slotAt L k).2)] else []) := by
  rw [List.take_succ_eq_append_getElem h, chunkU_append]
  have e : slotAt L k = L[k] := by simp [slotAt, List.getD, h]
  rw [e, List.length_take, Nat.min_eq_left (by omega)]
  simp [chunkU]
theorem chunkU_pre (b : Int) (L : List Slt) (k : Nat) : chunkU b (L.take k) <+: chunkU b L := by
  conv => rhs; rw [← List.take_append_drop k L, chunkU_append]
  exact List.prefix_append _ _
theorem chunkU_len : ∀ (b : Int) (L : List Slt), (chunkU b L).length = usedN L
  | _, [] => rfl
  | b, x :: L => by
    rw [chunkU, List.length_append, chunkU_len, usedN_cons]
    congr 1
    split <;> rfl
theorem chunkU_gt : ∀ (b : Int) (L : List Slt), ∀ x ∈ chunkU b L, b < x.1 ∧ x.1 ≤ b + L.length
  | _, [], x, h => by simp [chunkU] at h
  | b, y :: L, x, h => by
    rw [chunkU, List.mem_append] at h
    rw [List.length_cons]
    push_cast
    rcases h with h | h
    · split at h
      · simp at h; subst h; simp only; omega
      · simp at h
    · have := chunkU_gt (b + 1) L x h
      omega
theorem chunkU_inc : ∀ (b : Int) (L : List Slt), (chunkU b L).Pairwise (fun x y => x.1 < y.1)
  | _, [] => List.Pairwise.nil
  | b, y :: L => by
    rw [chunkU, List.pairwise_append]
    refine ⟨by split <;> simp, chunkU_inc (b + 1) L, fun x hx z hz => ?_⟩
    have := chunkU_gt (b + 1) L z hz
    split at hx
    · simp at hx; subst hx; simp only; omega
    · simp at hx
theorem slotAt_cons (x : Slt) (L : List Slt) (i : Nat) : slotAt (x :: L) (i + 1) = slotAt L i := by simp [slotAt]
theorem chunkU_mem : ∀ (b : Int) (L : List Slt) (x : Int) (r : List UInt8), (x, r) ∈ chunkU b L ↔ b < x ∧ slotAt L (x - b - 1).toNat = (true, r)
  | b, [], x, r => by simp [chunkU, slotAt]
  | b, y :: L, x, r => by
    rw [chunkU, List.mem_append, chunkU_mem (b + 1) L x r]
    by_cases h : x = b + 1
    · subst h
      have e : (b + 1 - b - 1).toNat = 0 := by omega
      have e2 : slotAt (y :: L) 0 = y := rfl
      rw [e, e2]
      constructor
      · rintro (h | h)
        · split at h
          · rename_i hy
            simp at h
            exact ⟨by omega, by rw [← hy, h]⟩
          · simp at h
        · omega
      · rintro ⟨_, h⟩
        left
        rw [h]; simp
    · constructor
      · rintro (h1 | ⟨h1, h2⟩)
        · split at h1
          · simp at h1; omega
          · simp at h1
        · refine ⟨by omega, ?_⟩
          rw [show (x - b - 1).toNat = (x - (b + 1) - 1).toNat + 1 by omega, slotAt_cons]; exact h2
      · rintro ⟨h1, h2⟩
        right
        refine ⟨by omega, ?_⟩
        rw [show (x - b - 1).toNat = (x - (b + 1) - 1).toNat + 1 by omega, slotAt_cons] at h2; exact h2
theorem chunkU_want (F : List Slt) (x : Int) (r : List UInt8) : (x, r) ∈ chunkU 0 F ↔ wantF F x = some r := by
  rw [chunkU_mem]
  unfold wantF
  rw [show (x - 0 - 1) = x - 1 by omega]
  constructor
  · rintro ⟨h1, h2⟩
    rw [h2, if_pos ⟨by omega, rfl⟩]
  · intro h
    split at h
    · rename_i h1
      injection h with h
      exact ⟨by omega, by rw [← h, ← h1.2]⟩
    · cases h
/-- The used slots of k pages from page p on, up to one that cannot be read; and the error of that one. -/
noncomputable def scanUF (m : List (List UInt8)) (d : DS) : Nat → Int → List (Int × List UInt8) × Int
  | 0, _ => ([], 0)
  | k + 1, p => if (loadS m d p).2 ≠ 0 then ([], (loadS m d p).2) else (chunkU ((p - 1) * slN d) (loadS m d p).1 ++ (scanUF m d k (p + 1)).1, (scanUF m d k (p + 1)).2)
noncomputable def scanU (m : List (List UInt8)) (d : DS) (fin p : Int) : List (Int × List UInt8) × Int := scanUF m d (fin + 1 - p).toNat p
theorem scanU_end {m : List (List UInt8)} {d : DS} {fin p : Int} (h : fin < p) : scanU m d fin p = ([], 0) := by
  unfold scanU
  rw [show (fin + 1 - p).toNat = 0 by omega]; rfl
theorem scanU_bad {m : List (List UInt8)} {d : DS} {fin p : Int} (h : p ≤ fin) (h2 : (loadS m d p).2 ≠ 0) : scanU m d fin p = ([], (loadS m d p).2) := by
  unfold scanU
  obtain ⟨k, hk⟩ : ∃ k, (fin + 1 - p).toNat = k + 1 := ⟨(fin - p).toNat, by omega⟩
  rw [hk, scanUF, if_pos h2]
theorem scanU_ok {m : List (List UInt8)} {d : DS} {fin p : Int} (h : p ≤ fin) (h2 : (loadS m d p).2 = 0) : scanU m d fin p = (chunkU ((p - 1) * slN d) (loadS m d p).1 ++ (scanU m d fin (p + 1)).1, (scanU m d fin (p + 1)).2) := by
  unfold scanU
  obtain ⟨k, hk⟩ : ∃ k, (fin + 1 - p).toNat = k + 1 := ⟨(fin - p).toNat, by omega⟩
  rw [hk, scanUF, if_neg (by omega), show (fin + 1 - (p + 1)).toNat = k by omega]
theorem loadS_in {m : List (List UInt8)} {d : DS} {p : Int} (h : (loadS m d p).2 = 0) : 0 ≤ p ∧ p < m.length := by
  by_cases h1 : (pageOf m p).2 = 0
  · unfold pageOf at h1
    split at h1
    · assumption
    · simp at h1
  · rw [loadS_page h1] at h
    exact absurd h h1
theorem usedN_le (F : List Slt) : usedN F ≤ F.length := List.length_filter_le _ _
theorem scanU_len {m : List (List UInt8)} {d : DS} (hv : validB d = true) (fin : Int) : ∀ (k : Nat) (p : Int), 0 ≤ p → m.length ≤ p.toNat + k → (scanU m d fin p).1.length ≤ 127 * k
  | k, p, h0, hk => by
    by_cases h : p ≤ fin
    · by_cases h2 : (loadS m d p).2 = 0
      · have h3 := loadS_in h2
        obtain ⟨j, rfl⟩ : ∃ j, k = j + 1 := ⟨k - 1, by omega⟩
        have := scanU_len (m := m) hv fin j (p + 1) (by omega) (by omega)
        have hl := loadS_len h2
        have hs := slN_pos hv
        have hu := usedN_le (loadS m d p).1
        rw [scanU_ok h h2, List.length_append, chunkU_len]
        omega
      · rw [scanU_bad h h2]; simp
    · rw [scanU_end (by omega)]; simp
termination_by k => k
/-- What is read of a made cluster from a page on. -/
theorem scanU_made {d : DS} {F : List Slt} {k : Nat} {h : Hd} {m : List (List UInt8)} (r : RMade d F k h m) (hv : validB d = true) : ∀ (j p : Nat), p + j = k → scanU m d k ((p : Int) + 1) = (chunkU ((p * nS d : Nat) : Int) (F.drop (p * nS d)), 0)
  | 0, p, hp => by
    rw [scanU_end (by omega), List.drop_eq_nil_of_le (by rw [r.len, ← hp]; simp)]
    rfl
  | j + 1, p, hp => by
    have hl := r.load hv (p := p) (by omega)
    have ih := scanU_made r hv j (p + 1) (by omega)
    have hN := (nS_pos hv).2.2
    rw [scanU_ok (by omega) (by rw [hl]), hl]
    rw [show ((p : Int) + 1 + 1) = ((p + 1 : Nat) : Int) + 1 by push_cast; rfl, ih]
    simp only
    have e : F.drop (p * nS d) = pgS (nS d) F p ++ F.drop ((p + 1) * nS d) := by
      unfold pgS
      rw [Nat.add_mul, Nat.one_mul, ← List.drop_drop, List.take_append_drop]
    rw [e, chunkU_append, pgS_len r.len (by omega)]
    have e1 : ((p : Int) + 1 - 1) * slN d = ((p * nS d : Nat) : Int) := by rw [← hN]; push_cast; rw [Int.add_sub_cancel]
    have e2 : (((p + 1) * nS d : Nat) : Int) = ((p * nS d : Nat) : Int) + (nS d : Int) := by rw [Nat.add_mul]; push_cast; omega
    rw [e1, e2]
/-- A record with its slot as a key. -/
def pairU (x : Int × List UInt8) : List UInt8 × List UInt8 := (slotL x.1, x.2)
/-- What All answers. -/
noncomputable def allU (m : List (List UInt8)) (h : Hd) (d : DS) : List (List UInt8 × List UInt8) × Int :=
  if doorOf h d 2 ≠ 0 then ([], doorOf h d 2) else if (scanU m d h.fin 1).2 ≠ 0 then ([], (scanU m d h.fin 1).2) else ((scanU m d h.fin 1).1.map pairU, 0)
/-- Where Next begins. -/
def startU (d : DS) (a : Int) : Int := 1 + max 0 a / slN d
/-- What Next answers: the slot, the record, the error. -/
noncomputable def nextU (m : List (List UInt8)) (h : Hd) (d : DS) (a : Int) : (Int × List UInt8) × Int :=
  if doorOf h d 2 ≠ 0 then ((0, []), doorOf h d 2) else
    match (scanU m d h.fin (startU d a)).1.find? (fun x => decide (a < x.1)) with
    | some x => (x, 0)
    | none => ((0, []), if (scanU m d h.fin (startU d a)).2 = 0 then 6 else (scanU m d h.fin (startU d a)).2)
theorem Ran.all {d : DS} {j : Nat} {s : St} {F : List Slt} {k : Nat} (R : Ran d j s F k) (hv : validB d = true) (ho : d.org = 2) (hj : j ≤ 41) : allU s.2 s.1 d = ((chunkU 0 F).map pairU, 0) := by
  have hd := R.door hv ho hj
  have hf := R.count.2
  have hs := scanU_made R.made hv k 0 (by omega)
  simp only [Nat.zero_mul, List.drop_zero, Int.natCast_zero, Int.zero_add] at hs
  unfold allU
  rw [if_neg (by simp [hd]), hf, hs]
  simp
/-- Next behind some operations: the least used slot that is greater. -/
theorem Ran.next {d : DS} {j : Nat} {s : St} {F : List Slt} {k : Nat} (R : Ran d j s F k) (hv : validB d = true) (ho : d.org = 2) (hj : j ≤ 41) (a : Int) :
    (nextU s.2 s.1 d a = ((0, []), 6) ∧ ∀ x, a < x → wantF F x = none) ∨
    (∃ x r, nextU s.2 s.1 d a = ((x, r), 0) ∧ a < x ∧ wantF F x = some r ∧ ∀ y, a < y → (wantF F y).isSome = true → x ≤ y) := by
  have hd := R.door hv ho hj
  have hf := R.count.2
  have hN := (nS_pos hv)
  have hlen := R.made.len
  -- the page where Next begins, from 0 on
  obtain ⟨p, hp⟩ : ∃ p : Nat, max 0 a / slN d = p := by
    obtain ⟨p, hp⟩ := Int.eq_ofNat_of_zero_le (Int.ediv_nonneg (show (0 : Int) ≤ max 0 a by omega) (show (0 : Int) ≤ slN d by omega))
    exact ⟨p, hp⟩
  have hpa : ((p * nS d : Nat) : Int) ≤ max 0 a := by
    have := Int.mul_ediv_self_le (x := max 0 a) (k := slN d) (by omega)
    rw [hp, ← hN.2.2] at this
    push_cast
    rw [Int.mul_comm]; exact this
  have hst : startU d a = (p : Int) + 1 := by unfold startU; rw [hp]; omega
  -- what is found is found in all slots
  have hfind : (scanU s.2 d s.1.fin (startU d a)).2 = 0 ∧ (scanU s.2 d s.1.fin (startU d a)).1.find? (fun x => decide (a < x.1)) = (chunkU 0 F).find? (fun x => decide (a < x.1)) := by
    rw [hst, hf]
    by_cases hpk : p ≤ k
    · rw [scanU_made R.made hv (k - p) p (by omega)]
      refine ⟨rfl, ?_⟩
      conv => rhs; rw [← List.take_append_drop (p * nS d) F, chunkU_append, List.find?_append]
      have hle : p * nS d ≤ F.length := by rw [hlen]; exact Nat.mul_le_mul_right _ hpk
      have hn : (chunkU 0 (F.take (p * nS d))).find? (fun x => decide (a < x.1)) = none := by
        rw [List.find?_eq_none]
        intro x hx
        have h1 := chunkU_gt 0 _ x hx
        rw [List.length_take, Nat.min_eq_left hle] at h1
        simp; omega
      rw [hn, List.length_take, Nat.min_eq_left hle]
      simp
    · rw [scanU_end (by omega)]
      refine ⟨rfl, ?_⟩
      symm
      rw [List.find?_nil, List.find?_eq_none]
      intro x hx
      have h1 := chunkU_gt 0 _ x hx
      have h2 : F.length ≤ p * nS d := by rw [hlen]; exact Nat.mul_le_mul_right _ (by omega)
      simp; omega
  unfold nextU
  rw [if_neg (by simp [hd]), hfind.1, hfind.2]
  cases hq : (chunkU 0 F).find? (fun x => decide (a < x.1)) with
  | none =>
    refine .inl ⟨by simp, fun x hx => ?_⟩
    rw [List.find?_eq_none] at hq
    cases hw : wantF F x with
    | none => rfl
    | some r =>
      have := hq _ ((chunkU_want F x r).2 hw)
      simp at this; omega
  | some x =>
    obtain ⟨x, r⟩ := x
    have h1 := List.find?_some hq
    have h2 := List.mem_of_find?_eq_some hq
    simp at h1
    refine .inr ⟨x, r, rfl, h1, (chunkU_want F x r).1 h2, fun y hy hs => ?_⟩
    obtain ⟨r', hr'⟩ := Option.isSome_iff_exists.1 hs
    have h3 := (chunkU_want F y r').2 hr'
    obtain ⟨l1, l2, hl, hn⟩ := List.find?_eq_some_iff_append.1 hq |>.2
    have hinc := chunkU_inc 0 F
    rw [hl] at h3 hinc
    rw [List.mem_append, List.mem_cons] at h3
    rcases h3 with h3 | h3 | h3
    · have := hn _ h3; simp at this; omega
    · injection h3 with h3 _; omega
    · have := (List.pairwise_cons.1 (List.pairwise_append.1 hinc).2.1).1 _ h3
      simp only at this; omega
theorem beL_less : ∀ (k a b : Nat), a % 256 ^ k < b % 256 ^ k → Go.Op.bytesLess (beL k a) (beL k b) = true
  | 0, a, b, h => by simp at h; omega
  | k + 1, a, b, h => by
    rw [Nat.pow_succ, Nat.mod_mul, Nat.mod_mul] at h
    rw [beL, beL, Go.Op.bytesLess]
    have h1 : (UInt8.ofNat (a / 256 ^ k)).toNat = a / 256 ^ k % 256 := by simp
    have h2 : (UInt8.ofNat (b / 256 ^ k)).toNat = b / 256 ^ k % 256 := by simp
    by_cases hlt : a / 256 ^ k % 256 < b / 256 ^ k % 256
    · have : UInt8.ofNat (a / 256 ^ k) < UInt8.ofNat (b / 256 ^ k) := by rw [UInt8.lt_iff_toNat_lt, h1, h2]; exact hlt
      simp [this]
    · by_cases heq : a / 256 ^ k % 256 = b / 256 ^ k % 256
      · have e : UInt8.ofNat (a / 256 ^ k) = UInt8.ofNat (b / 256 ^ k) := UInt8.toNat_inj.1 (by rw [h1, h2, heq])
        rw [heq] at h
        rw [e, beL_less k a b (by omega)]
        simp
      · exfalso
        have hp : 0 < 256 ^ k := Nat.pow_pos (by omega)
        have ha := Nat.mod_lt a hp
        have hb := Nat.mod_lt b hp
        have h3 : 256 ^ k * (b / 256 ^ k % 256) + 256 ^ k ≤ 256 ^ k * (a / 256 ^ k % 256) := by
          have : b / 256 ^ k % 256 + 1 ≤ a / 256 ^ k % 256 := by omega
          have := Nat.mul_le_mul_left (256 ^ k) this
          rwa [Nat.mul_add, Nat.mul_one] at this
        omega
theorem slot_less {x y : Int} (h0 : 0 ≤ x) (h : x < y) (h1 : y ≤ 1099511627776) : Go.Op.bytesLess (slotL x) (slotL y) = true := by
  unfold slotL
  rw [if_neg (by omega), if_neg (by omega)]
  refine beL_less _ _ _ ?_
  rw [Nat.mod_eq_of_lt (by omega), Nat.mod_eq_of_lt (by omega)]
  omega
/-- Keys of slots are in the order of their numbers. -/
theorem Ran.keys {d : DS} {j : Nat} {s : St} {F : List Slt} {k : Nat} (R : Ran d j s F k) (hv : validB d = true) (hj : j ≤ 41) : ∀ x ∈ chunkU 0 F, 1 ≤ x.1 ∧ x.1 ≤ 65536 := fun x hx => by
  have h1 := chunkU_gt 0 F x hx
  have h2 := R.len hv hj
  omega
end Dsd
/- The used slots of a relative cluster: the iterator over them. -/
namespace Go.Proofs.YtjgdhlpnpihkdaaDoor
open Go.RowKit Dsd
attribute [local go_sem] Oper.semAt_some

/-- The variables of the iterator: the page, the cluster, the pointer to the error's variable, the error. -/
structure UtAt (g1 g0 g2 eb : Nat) (q : Value) (h : Hd) (d : DS) (pg er : Int) (w : World) : Prop where
  page : Blk w g1 (.cells #[.int .i64 pg] 3)
  cl : Blk w g0 (.cells (rcCells q h d) 122)
  ptr : Blk w g2 (.cells #[.pointer (some ⟨eb, 0, none⟩)] 117)
  err : Blk w eb (.cells #[.int .i64 er] 32)
theorem UtAt.ext {g1 g0 g2 eb : Nat} {q : Value} {h : Hd} {d : DS} {pg er : Int} {w w' : World} (i : UtAt g1 g0 g2 eb q h d pg er w) (e : Ext w w') : UtAt g1 g0 g2 eb q h d pg er w' := ⟨e.blk _ _ i.page, e.blk _ _ i.cl, e.blk _ _ i.ptr, e.blk _ _ i.err⟩
/-- The types of what it reads. -/
def uRd (t : TypeId) : Prop := t = 3 ∨ t = 32 ∨ t = 122 ∨ t = 117 ∨ t = 131
theorem UtAt.kc {g1 g0 g2 eb : Nat} {q : Value} {h : Hd} {d : DS} {pg er : Int} {w w' : World} {n0 : Nat} {tc : Nat → TypeId → Prop} (i : UtAt g1 g0 g2 eb q h d pg er w) (k : Kc n0 tc w w') (ht : ∀ b t, uRd t → ¬ tc b t) : UtAt g1 g0 g2 eb q h d pg er w' :=
  ⟨k.blk i.page (ht _ _ (.inl rfl)), k.blk i.cl (ht _ _ (.inr (.inr (.inl rfl)))), k.blk i.ptr (ht _ _ (.inr (.inr (.inr (.inl rfl))))), k.blk i.err (ht _ _ (.inr (.inl rfl)))⟩

/-- The iterator that 'used' hands back. -/
theorem used_any (q : Value) (h : Hd) (d : DS) (pg er : Int) (eb : Nat) (w : World) (he : Blk w eb (.cells #[.int .i64 er] 32)) :
    Calls Tryd.prog 77 #[.agg (rcCells q h d), .int .i64 pg, .pointer (some ⟨eb, 0, none⟩)] w fun e w' => Ext w w' ∧ ∃ g1 g0 g2, w.heap.size ≤ g1 ∧
      e = .returned (.func (.func 108) #[] #[.pointer (some ⟨g1, 0, none⟩), .pointer (some ⟨g0, 0, none⟩), .pointer (some ⟨g2, 0, none⟩)]) ∧ UtAt g1 g0 g2 eb q h d pg er w' := by
  go_enter Tryd.func77, Tryd.ntmps77
  go_wp2
  go_ret
  refine ⟨((Ext.alloc _ _).trans (Ext.alloc _ _)).trans (Ext.alloc _ _), _, _, _, by omega, rfl, ?_⟩
  have k1 : Blk (w.alloc (.cells (rcCells q h d) 122)) w.heap.size (.cells (rcCells q h d) 122) := Blk.new _ _
  have k2 : Blk ((w.alloc (.cells (rcCells q h d) 122)).alloc (.cells #[.int .i64 pg] 3)) (w.heap.size + 1) (.cells #[.int .i64 pg] 3) := Blk.new1 _ _ _ (by simp)
  exact ⟨Blk.alloc k2 _, Blk.alloc (Blk.alloc k1 _) _, Blk.new1 _ _ _ (by simp), Blk.alloc (Blk.alloc (Blk.alloc he _) _) _⟩

def encU (x : Int × List UInt8) : Array Value := #[.int .i64 x.1, .string ⟨x.2.toArray⟩]
/-- What stands between two pages. -/
structure UseIn (w0 : World) (g1 g0 g2 eb : Nat) (q : Value) (h : Hd) (d : DS) (m : List (List UInt8)) (R : List (Int × List UInt8) × Int) (J : List (Int × List UInt8) → World → Prop) (pg : Int) (pre : List (Int × List UInt8)) (w : World) : Prop where
  ext : Ext w0 w
  it : UtAt g1 g0 g2 eb q h d pg 0 w
  pos : 1 ≤ pg
  fst : pre ++ (scanU m d h.fin pg).1 = R.1
  snd : (scanU m d h.fin pg).2 = R.2
  inv : J pre w

set_option maxRecDepth 100000 in
set_option maxHeartbeats 4000000 in
theorem used_iter (p : Option Addr) (n cap : Nat) (m : List (List UInt8)) (h : Hd) (d : DS) (p0 : Int) (g1 g0 g2 eb : Nat) (w0 w : World) (hs : Strs w0 p m) (hn : m.length = n) (hm : Small m) (hv : validB d = true) (hf : h.fin ≤ 16777216) (hp : 1 ≤ p0) (he : Ext w0 w) (hg1 : w0.heap.size ≤ g1) (heb : w0.heap.size ≤ eb)
    (hi : UtAt g1 g0 g2 eb (mV p n cap) h d p0 0 w) (tB : Nat → TypeId → Prop) (hB : ∀ b t, uRd t → ¬ tB b t) :
    IterAt Tryd.prog 108 #[.pointer (some ⟨g1, 0, none⟩), .pointer (some ⟨g0, 0, none⟩), .pointer (some ⟨g2, 0, none⟩)] encU w0.heap.size (tIt g1 eb) tB (ScS (scanU m d h.fin p0) eb) (ScP (scanU m d h.fin p0)) (fun pre x => pre ++ [x] <+: (scanU m d h.fin p0).1) w := by
  intro l J Jx W hx hJ hJx hY h0
  have Hs := Lib.hid hs
  have Hn := Lib.hid hn
  have Hm := Lib.hid hm
  have HJ := Lib.hid hJ
  have HJx := Lib.hid hJx
  have HY := Lib.hid hY
  have HB := Lib.hid hB
  obtain ⟨hi0, hi1⟩ := slN_pos hv
  have HIn : Hid (UseIn w0 g1 g0 g2 eb (mV p n cap) h d m (scanU m d h.fin p0) J p0 [] W) := Lib.hid ⟨he.trans hx, hi.ext hx, hp, by simp, rfl, h0⟩
  generalize scanU m d h.fin p0 = R at *
  clear hs hn hm hJ hJx hY hB hi h0 hv
  show Calls Tryd.prog 108 #[.func (.yield l) #[] #[], .pointer (some ⟨g1, 0, none⟩), .pointer (some ⟨g0, 0, none⟩), .pointer (some ⟨g2, 0, none⟩)] W _
  go_enter Tryd.func108, Tryd.ntmps108
  go_wp2
  go_loopw [5] (fun _ wr => ∃ pg pre, UseIn w0 g1 g0 g2 eb (mV p n cap) h d m R J pg pre wr) (fun _ wr => (h.fin + 1 - pageIn g1 wr).toNat)
  case atStart => exact ⟨p0, [], HIn.out⟩
  case round =>
    obtain ⟨pg, pre, hin⟩ := hrel
    have c1 : wr.cell? ⟨g1, 0, none⟩ = some (.int .i64 pg) := Blk.val hin.it.page 0 _ rfl
    have c2 : wr.cell? ⟨g0, 3, none⟩ = some (.int .i64 h.fin) := Blk.val hin.it.cl 3 _ rfl
    have hpos := hin.pos
    have Hin := Lib.hid hin
    clear hin
    by_cases hle : pg ≤ h.fin
    · have hleI : decide (pg ≤ h.fin) = true := decide_eq_true hle
      have hbcl := Hin.out.it.cl
      have HL := Lib.hid (rload_any p cap n m h d pg wr (Hs.out.ext Hin.out.ext) Hn.out Hm.out)
      by_cases hld : (loadS m d pg).2 = 0
      · have HL2 : Hid (Calls Tryd.prog 69 #[.agg (rcCells (mV p n cap) h d), .int .i64 pg] wr fun e w2 => ∃ q2 c2, e = .returned (.tuple #[.slice q2 (loadS m d pg).1.length c2, .int .i64 0]) ∧ Ext wr w2 ∧ w2.ownsRow wr.heap.size 131 2 (.slice q2 (loadS m d pg).1.length c2) (loadS m d pg).1.length (slotCells (loadS m d pg).1)) :=
          Lib.hid (HL.out.mono fun e w2 ⟨he2, h⟩ => by
            rcases h with ⟨h1, _⟩ | ⟨_, q2, c2, h2, h4⟩
            · exact absurd hld h1
            · exact ⟨q2, c2, h2, he2, h4⟩)
        have HSc := Lib.hid (scanU_ok hle hld)
        have hll : (loadS m d pg).1.length ≤ 127 := by rw [loadS_len hld]; omega
        generalize (loadS m d pg).1 = L at *
        clear hld HL
        go_upto_region 5 with (first | (refine wpList_row rfl 122 (.tmp 2) rfl _ rfl _ _ _ hbcl rcDesc rfl rcSize ?_) | (go_at_call 69; refine HL2.out.mono ?_; rintro e w2 ⟨q2, c2, rfl, he2, hown⟩))
        have hz0 := Hin.out.ext.size
        have hj2 := HJ.out _ _ _ (Kc.of_ext he2 hz0) (KeepsFrom.of_ext he2) Hin.out.inv
        have HRel : Hid (Ext w0 w2 ∧ UtAt g1 g0 g2 eb (mV p n cap) h d pg 0 w2 ∧ w2.ownsRow wr.heap.size 131 2 (.slice q2 L.length c2) L.length (slotCells L) ∧ J (pre ++ chunkU ((pg - 1) * slN d) (L.take 0)) w2) := Lib.hid ⟨Hin.out.ext.trans he2, Hin.out.it.ext he2, hown, by simpa [chunkU] using hj2⟩
        have hz2 := he2.size
        have hB2 : w0.heap.size ≤ wr.heap.size := hz0
        have hpm : 0 ≤ (pg - 1) * slN d ∧ (pg - 1) * slN d ≤ 8589934592 := by
          have h1 := Int.mul_le_mul (show pg - 1 ≤ 16777216 by omega) hi1 (by omega) (by omega)
          have h2 := Int.mul_nonneg (show (0 : Int) ≤ pg - 1 by omega) (show 0 ≤ slN d by omega)
          omega
        obtain ⟨hpm0, hpm1⟩ := hpm
        clear hown hj2 he2
        generalize wr.heap.size = B2 at *
        go_wp2_with fail
        go_loopw [29] (fun i wr => ∃ k : Nat, k ≤ L.length ∧ i = .int .i64 k ∧ Ext w0 wr ∧ UtAt g1 g0 g2 eb (mV p n cap) h d pg 0 wr ∧ wr.ownsRow B2 131 2 (.slice q2 L.length c2) L.length (slotCells L) ∧ J (pre ++ chunkU ((pg - 1) * slN d) (L.take k)) wr) (fun i _ => L.length - (intOf i).toNat)
        case atStart => exact ⟨0, Nat.zero_le _, rfl, HRel.out⟩
        case round =>
          obtain ⟨k, hk, rfl, hex, hit, hown, hj⟩ := hrel
          by_cases hlt : k < L.length
          · have hltI : (k : Int) < L.length := by omega
            obtain ⟨g, rfl, hg1', hg2', _, _, hck0, hck1, _⟩ := own_setS hown k hlt
            have HT := Lib.hid (chunkU_take ((pg - 1) * slN d) L k hlt)
            have hpre : pre ++ chunkU ((pg - 1) * slN d) (L.take (k + 1)) <+: R.1 := by
              have h1 := Hin.out.fst
              rw [HSc.out] at h1
              rw [← h1]
              exact (List.prefix_append_right_inj _).2 ((chunkU_pre _ _ _).trans (List.prefix_append _ _))
            have Hpre := Lib.hid hpre
            have c1 : wr.cell? ⟨g1, 0, none⟩ = some (.int .i64 pg) := Blk.val hit.page 0 _ rfl
            have c3 : wr.cell? ⟨g0, 29, none⟩ = some (.int .i64 (slN d)) := Blk.val hit.cl 29 _ rfl
            generalize slotAt L k = x at *
            obtain ⟨u, r⟩ := x
            simp only at hck0 hck1 HT
            have Hex := Lib.hid hex
            have Hit := Lib.hid hit
            have Hown := Lib.hid hown
            have Hj := Lib.hid hj
            clear hpre hex hit hown hj
            go_upto_region 8 with (fail)
            have hxl := Blk.lt Hit.out.cl
            have hxp := Blk.lt Hit.out.page
            cases u
            · simp only [Bool.false_eq_true, if_false, List.append_nil] at HT
              have hz0 := Hex.out.size
              have hj1 := HJ.out _ _ _ (Kc.of_ext (Ext.alloc wr (.cells #[.bool false, .string ⟨r.toArray⟩] 131)) hz0) (KeepsFrom.of_ext (Ext.alloc wr _)) Hj.out
              have HRel2 : Hid (Ext w0 (wr.alloc (.cells #[.bool false, .string ⟨r.toArray⟩] 131)) ∧ UtAt g1 g0 g2 eb (mV p n cap) h d pg 0 (wr.alloc (.cells #[.bool false, .string ⟨r.toArray⟩] 131)) ∧ (wr.alloc (.cells #[.bool false, .string ⟨r.toArray⟩] 131)).ownsRow B2 131 2 (.slice (some ⟨g, 0, none⟩) L.length c2) L.length (slotCells L) ∧ J (pre ++ chunkU ((pg - 1) * slN d) (L.take (k + 1))) (wr.alloc (.cells #[.bool false, .string ⟨r.toArray⟩] 131))) :=
                Lib.hid ⟨Hex.out.trans (Ext.alloc _ _), Hit.out.ext (Ext.alloc _ _), own_ext Hown.out (Ext.alloc _ _), by rw [HT.out]; exact hj1⟩
              clear hj1
              go_wp2_with fail
              go_roundw
              case rel => exact ⟨k + 1, by omega, by go_num, HRel2.out⟩
              case measure => simp [intOf]; omega
            · simp only [if_true] at HT
              have hz0 := Hex.out.size
              have hj1 := HJ.out _ _ _ (Kc.of_ext (Ext.alloc wr (.cells #[.bool true, .string ⟨r.toArray⟩] 131)) hz0) (KeepsFrom.of_ext (Ext.alloc wr _)) Hj.out
              have hpx := Hpre.out
              rw [HT.out, ← List.append_assoc] at hpx
              have hYx := HY.out _ ((pg - 1) * slN d + k + 1, r) _ hj1 hpx
              have Hpx := Lib.hid hpx
              have Hit2 := Lib.hid (Hit.out.ext (Ext.alloc wr (.cells #[.bool true, .string ⟨r.toArray⟩] 131)))
              have Hex2 := Lib.hid (Hex.out.trans (Ext.alloc wr (.cells #[.bool true, .string ⟨r.toArray⟩] 131)))
              have Hown2 := Lib.hid (own_ext Hown.out (Ext.alloc wr (.cells #[.bool true, .string ⟨r.toArray⟩] 131)))
              clear hj1 hpx
              obtain ⟨fn, tmps, assign, body, hy, hR⟩ := hYx
              dsimp only [encU] at hy
              refine (wpIn_wide (n := 3)).1 ?_
              gi_wp2
              refine hR.mono ?_
              rintro e W' (⟨rfl, hj', hk'⟩ | ⟨rfl, hjx'⟩)
              · have HRel2 : Hid (Ext w0 W' ∧ UtAt g1 g0 g2 eb (mV p n cap) h d pg 0 W' ∧ W'.ownsRow B2 131 2 (.slice (some ⟨g, 0, none⟩) L.length c2) L.length (slotCells L) ∧ J (pre ++ chunkU ((pg - 1) * slN d) (L.take (k + 1))) W') :=
                  Lib.hid ⟨Ext.trans' Hex2.out hk'.below, Hit2.out.kc hk' HB.out, own_kc Hown2.out hk' (fun b => HB.out b _ (.inr (.inr (.inr (.inr rfl))))), by rw [HT.out, ← List.append_assoc]; exact hj'⟩
                clear hj' hk' hy hR
                gi_wp2
                go_wp2_with fail
                go_roundw
                case rel => exact ⟨k + 1, by omega, by go_num, HRel2.out⟩
                case measure => simp [intOf]; omega
              · clear hy hR
                gi_wp2
                go_wp2_with fail
                exact bodyPost_ret (results_none rfl _ _ _) rfl ⟨⟨_, rfl⟩, .inr ⟨_, Hpx.out, hjx'⟩⟩
          · have hltI : decide ((k : Int) < L.length) = false := decide_eq_false (by omega)
            obtain rfl : k = L.length := by omega
            rw [List.take_length] at hj
            have c1 : wr.cell? ⟨g1, 0, none⟩ = some (.int .i64 pg) := Blk.val hit.page 0 _ rfl
            have c2' : wr.frozen? ⟨g1, 0, none⟩ = false := Blk.free hit.page 0
            go_wp2_with fail
            have hc := Chg.setCell (w := wr) (g := g1) (i := 0) (v := .int .i64 (pg + 1))
            have h1 := Hin.out.fst
            have h2 := Hin.out.snd
            rw [HSc.out] at h1 h2
            have hpn : Blk (wr.setCell ⟨g1, 0, none⟩ (.int .i64 (pg + 1))) g1 (.cells #[.int .i64 (pg + 1)] 3) := Blk.setCell hit.page
            refine ⟨⟨pg + 1, pre ++ chunkU ((pg - 1) * slN d) L, hc.ext hex hg1, ⟨hpn, hc.blk hit.cl (blk_ne hit.cl hit.page (by decide)), hc.blk hit.ptr (blk_ne hit.ptr hit.page (by decide)), hc.blk hit.err (blk_ne hit.err hit.page (by decide))⟩, by omega, by rw [List.append_assoc]; exact h1, h2, HJ.out _ _ _ (Kc.of_chg hc hg1 hit.page (.inl ⟨rfl, rfl⟩)) (KeepsFrom.of_chg hc hit.page) hj⟩, ?_⟩
            rw [pageIn_blk hpn, pageIn_blk Hin.out.it.page]
            omega
      · have HL2 : Hid (Calls Tryd.prog 69 #[.agg (rcCells (mV p n cap) h d), .int .i64 pg] wr fun e w2 => e = .returned (.tuple #[.slice none 0 0, .int .i64 (loadS m d pg).2]) ∧ Ext wr w2) :=
          Lib.hid (HL.out.mono fun e w2 ⟨he2, h⟩ => by
            rcases h with ⟨_, h1⟩ | ⟨h1, _⟩
            · exact ⟨h1, he2⟩
            · exact absurd h1 hld)
        have HSc := Lib.hid (scanU_bad hle hld)
        have hldI : ((loadS m d pg).2 != 0) = true := by simpa using hld
        generalize (loadS m d pg).2 = er at *
        clear hld HL
        go_wp2_with (first | (refine wpList_row rfl 122 (.tmp 2) rfl _ rfl _ _ _ hbcl rcDesc rfl rcSize ?_) | (go_at_call 69; refine HL2.out.mono ?_; rintro e w2 ⟨rfl, he2⟩; have c4 := (show w2.cell? ⟨g2, 0, none⟩ = some (.pointer (some ⟨eb, 0, none⟩)) from Blk.val (he2.blk _ _ Hin.out.it.ptr) 0 _ rfl); have c5 := (show w2.cell? ⟨eb, 0, none⟩ = some (.int .i64 0) from Blk.val (he2.blk _ _ Hin.out.it.err) 0 _ rfl); have c6 := (show w2.frozen? ⟨eb, 0, none⟩ = false from Blk.free (he2.blk _ _ Hin.out.it.err) 0)))
        have hz0 := Hin.out.ext.size
        have herr := he2.blk _ _ Hin.out.it.err
        have hj2 := HJ.out _ _ _ (Kc.of_ext he2 hz0) (KeepsFrom.of_ext he2) Hin.out.inv
        have hj3 := HJ.out _ _ _ (Kc.of_chg (Chg.setCell (w := w2) (g := eb) (i := 0) (v := .int .i64 er)) heb herr (.inr ⟨rfl, rfl⟩)) (KeepsFrom.of_chg Chg.setCell herr) hj2
        have h1 := Hin.out.fst
        have h2 := Hin.out.snd
        rw [HSc.out] at h1 h2
        simp only [List.append_nil] at h1
        exact bodyPost_ret (results_none rfl _ _ _) rfl ⟨⟨_, rfl⟩, .inl ⟨pre, ⟨h1, by rw [← h2]; exact Blk.setCell herr⟩, hj3⟩⟩
    · have hleI : decide (pg ≤ h.fin) = false := decide_eq_false hle
      go_wp2_with fail
      go_end0
      have h1 := Hin.out.fst
      have h2 := Hin.out.snd
      rw [scanU_end (by omega)] at h1 h2
      simp only [List.append_nil] at h1
      exact ⟨⟨_, rfl⟩, .inl ⟨pre, ⟨h1, by rw [← h2]; exact Hin.out.it.err⟩, Hin.out.inv⟩⟩
end Go.Proofs.YtjgdhlpnpihkdaaDoor
/- The walk of package relative's Next. -/
namespace Go.Proofs.YtjgdhlpnpihkdaaDoor
open Go.RowKit Dsd
attribute [local go_sem] Oper.semAt_some
theorem results_nvR {tmps : Array Value} {w : World} {b : Nat} {x : Int} {s : List UInt8} {e : Int} (n : NvAt b x s e w)
    (h1 : tmps.getD 8 undef = .pointer (some ⟨b, 0, none⟩)) (h2 : tmps.getD 9 undef = .pointer (some ⟨b + 1, 0, none⟩)) (h3 : tmps.getD 10 undef = .pointer (some ⟨b + 1 + 1, 0, none⟩)) :
    (results Tryd.f45 tmps).run Tryd.prog w = .ok (.tuple #[.int .i64 x, .string ⟨s.toArray⟩, .int .i64 e]) w := by
  have c1 := Blk.val n.c1 0 _ rfl
  have c2 := Blk.val n.c2 0 _ rfl
  have c3 := Blk.val n.c3 0 _ rfl
  have h1' : tmps[8]?.getD undef = .pointer (some ⟨b, 0, none⟩) := by simpa using h1
  have h2' : tmps[9]?.getD undef = .pointer (some ⟨b + 1, 0, none⟩) := by simpa using h2
  have h3' : tmps[10]?.getD undef = .pointer (some ⟨b + 1 + 1, 0, none⟩) := by simpa using h3
  simp [results, Tryd.results45, asAddr, Sem.run_bind, h1', h2', h3', go_sem, c1, c2, c3]
theorem nv_set0 {b : Nat} {x0 : Int} {s0 : List UInt8} {e0 : Int} {W : World} (n : NvAt b x0 s0 e0 W) (x : Int) (s : List UInt8) (e : Int) :
    NvAt b x s e (((W.setCell ⟨b, 0, none⟩ (.int .i64 x)).setCell ⟨b + 1, 0, none⟩ (.string ⟨s.toArray⟩)).setCell ⟨b + 1 + 1, 0, none⟩ (.int .i64 e)) ∧
      (∀ w, Ext w W → w.heap.size ≤ b → Ext w (((W.setCell ⟨b, 0, none⟩ (.int .i64 x)).setCell ⟨b + 1, 0, none⟩ (.string ⟨s.toArray⟩)).setCell ⟨b + 1 + 1, 0, none⟩ (.int .i64 e))) ∧
      ∀ B, KeepsFrom B W (((W.setCell ⟨b, 0, none⟩ (.int .i64 x)).setCell ⟨b + 1, 0, none⟩ (.string ⟨s.toArray⟩)).setCell ⟨b + 1 + 1, 0, none⟩ (.int .i64 e)) := by
  have k1 := Chg.setCell (w := W) (g := b) (i := 0) (v := .int .i64 x)
  have a1 : Blk (W.setCell ⟨b, 0, none⟩ (.int .i64 x)) b (.cells #[.int .i64 x] 3) := Blk.setCell n.c1
  have a2 := k1.blk n.c2 (by omega)
  have a3 := k1.blk n.c3 (by omega)
  have q1 := fun B => KeepsFrom.of_chg (B := B) k1 n.c1
  generalize W.setCell ⟨b, 0, none⟩ (.int .i64 x) = W1 at *
  have k2 := Chg.setCell (w := W1) (g := b + 1) (i := 0) (v := .string ⟨s.toArray⟩)
  have b1 := k2.blk a1 (by omega)
  have b2 : Blk (W1.setCell ⟨b + 1, 0, none⟩ (.string ⟨s.toArray⟩)) (b + 1) (.cells #[.string ⟨s.toArray⟩] 9) := Blk.setCell a2
  have b3 := k2.blk a3 (by omega)
  have q2 := fun B => KeepsFrom.of_chg (B := B) k2 a2
  generalize W1.setCell ⟨b + 1, 0, none⟩ (.string ⟨s.toArray⟩) = W2 at *
  have k3 := Chg.setCell (w := W2) (g := b + 1 + 1) (i := 0) (v := .int .i64 e)
  have d1 := k3.blk b1 (by omega)
  have d2 := k3.blk b2 (by omega)
  have d3 : Blk (W2.setCell ⟨b + 1 + 1, 0, none⟩ (.int .i64 e)) (b + 1 + 1) (.cells #[.int .i64 e] 32) := Blk.setCell b3
  have q3 := fun B => KeepsFrom.of_chg (B := B) k3 b3
  generalize W2.setCell ⟨b + 1 + 1, 0, none⟩ (.int .i64 e) = W3 at *
  exact ⟨⟨d1, d2, d3⟩, fun w he hb => k3.ext (k2.ext (k1.ext he hb) (by omega)) (by omega), fun B => ((q1 B).trans (q2 B)).trans (q3 B)⟩
/-- The iterator's value, as a fact. -/
def UtF (B eb : Nat) (q : Value) (h : Hd) (d : DS) (pg er : Int) : Fact := fun x w => ∃ g1 g0 g2, B ≤ g1 ∧ x = .func (.func 108) #[] #[.pointer (some ⟨g1, 0, none⟩), .pointer (some ⟨g0, 0, none⟩), .pointer (some ⟨g2, 0, none⟩)] ∧ UtAt g1 g0 g2 eb q h d pg er w
theorem UtF.stable (B eb : Nat) (q : Value) (h : Hd) (d : DS) (pg er : Int) : (UtF B eb q h d pg er).stable := fun _ _ _ he ⟨g1, g0, g2, h1, h2, h3⟩ => ⟨g1, g0, g2, h1, h2, h3.ext he⟩

set_option maxRecDepth 100000 in
set_option maxHeartbeats 4000000 in
theorem NextR_any (p : Option Addr) (n cap : Nat) (m : List (List UInt8)) (h : Hd) (d : DS) (a : Int) (ha : a ≤ 1099511627776) (w : World) (hs : Strs w p m) (hn : m.length = n) (hm : Small m) :
    Calls Tryd.prog 45 #[mV p n cap, .agg #[.int .i64 h.applied, .int .i64 h.count, .int .i64 h.fin, .int .i64 h.root, .int .i64 h.height, .int .i64 h.splits, .int .i64 h.areas], .agg #[.int .i64 d.id, .int .i64 d.org, .int .i64 d.format, .int .i64 d.length, .int .i64 d.block, .int .i64 d.keyAt, .int .i64 d.keyLength, .int .i64 d.interval, .int .i64 d.area, .int .i64 d.freeInterval, .int .i64 d.freeArea, .int .i64 d.base, .int .i64 d.altAt, .int .i64 d.altLength, .bool d.unique, .int .i64 d.cls, .string ⟨d.volume.toArray⟩, .string ⟨d.owner.toArray⟩, .int .i64 d.created, .int .i64 d.expires, .bool d.archived], .int .i64 a] w (NextOut (nextU m h d a) w) := by
  have Hs := Lib.hid hs
  have Hn := Lib.hid hn
  have Hm := Lib.hid hm
  have Hop := Lib.hid (ropen_any p n cap h d)
  clear hs hn hm
  refine calls_of_wp_marks Tryd.func45 rfl ?_
  simp only [Tryd.ntmps45, List.size_toArray, List.length_cons, List.length_nil, Nat.reduceAdd, Nat.reduceSub, Array.replicate_succ, Array.replicate_zero, List.push_toArray, List.append_toArray, List.nil_append, List.cons_append]
  go_upto_region 1 with (fail)
  refine wp_name (fun w0 => Ext w w0 ∧ HdAt w0 w.heap.size h ∧ DsAt w0 (w.heap.size + 1) d ∧ Blk w0 (w.heap.size + 1 + 1) (.cells #[.int .i64 a] 3) ∧ NvAt (w.heap.size + 1 + 1 + 1) 0 [] 0 w0) (next_start w _ h d a rfl) ?_
  rintro w0 ⟨he0, hb1, hb2, hb3, hnv⟩
  have hwn : w.heap.size ≤ w.heap.size + 1 + 1 + 1 := by omega
  have hwn2 : w.heap.size + 1 + 1 < w.heap.size + 1 + 1 + 1 := by omega
  generalize w.heap.size + 1 + 1 + 1 = nb at *
  generalize hab : w.heap.size + 1 + 1 = ab at *
  have hwa : w.heap.size ≤ ab := by omega
  clear hab
  by_cases hdo : doorOf h d 2 = 0
  · have Hop2 : Hid (∀ w, Calls Tryd.prog 67 #[mV p n cap, .agg #[.int .i64 h.applied, .int .i64 h.count, .int .i64 h.fin, .int .i64 h.root, .int .i64 h.height, .int .i64 h.splits, .int .i64 h.areas], .agg #[.int .i64 d.id, .int .i64 d.org, .int .i64 d.format, .int .i64 d.length, .int .i64 d.block, .int .i64 d.keyAt, .int .i64 d.keyLength, .int .i64 d.interval, .int .i64 d.area, .int .i64 d.freeInterval, .int .i64 d.freeArea, .int .i64 d.base, .int .i64 d.altAt, .int .i64 d.altLength, .bool d.unique, .int .i64 d.cls, .string ⟨d.volume.toArray⟩, .string ⟨d.owner.toArray⟩, .int .i64 d.created, .int .i64 d.expires, .bool d.archived]] w fun e w' => e = .returned (.tuple #[.agg (rcCells (mV p n cap) h d), .int .i64 0]) ∧ Ext w w') :=
      Lib.hid (fun w => (Hop.out w).mono fun e w' ⟨he, h⟩ => by
        rcases h with ⟨_, h⟩ | ⟨h, _⟩
        · exact ⟨h, he⟩
        · exact absurd hdo h)
    clear Hop
    obtain ⟨hva, hpl, hor⟩ := door_zero hdo
    obtain ⟨hi0, hi1⟩ := slN_pos hva
    have p4 := (plain_spec hpl).2.2.2
    have HD := Lib.hid hdo
    have HR : Hid (nextU m h d a = _) := Lib.hid (by unfold nextU; rw [if_neg (by simp [HD.out])])
    have Hv3 := Lib.hid hva
    clear hdo hva hpl hor
    go_upto_region 2 with (first | (refine wpList_ds rfl (.tmp 6) rfl _ rfl d hb2 ?_) | (refine wpList_hd rfl (.tmp 5) rfl _ rfl h hb1 ?_) | (go_at_call 67; refine (Hop2.out _).mono ?_; rintro e w1 ⟨rfl, he1⟩) | (refine wpList_put rfl 122 (.tmp 11) (.tmp 20) rfl _ (rcCells (mV p n cap) h d) rfl rfl _ _ (Blk.alloc (Blk.new w1 _) _) rcSize rfl (rc_one p n cap h d) ?_; intro w2 hcl hc2; have hb9 := hc2.blk (Blk.new1 (w1.alloc (.cells rcZero 122)) (.cells #[.int .i64 0] 32) (w1.heap.size + 1) (by simp)) (by omega); have c9 := (show w2.cell? ⟨w1.heap.size + 1, 0, none⟩ = some (.int .i64 0) from Blk.val hb9 0 _ rfl); have f9 := (show w2.frozen? ⟨w1.heap.size + 1, 0, none⟩ = false from Blk.free hb9 0)))
    have hx2 : Ext w1 w2 := hc2.ext ((Ext.alloc _ _).trans (Ext.alloc _ _)) (Nat.le_refl _)
    have hc3 := Chg.setCell (w := w2) (g := w1.heap.size + 1) (i := 0) (v := .int .i64 0)
    have hx3 : Ext w1 (w2.setCell ⟨w1.heap.size + 1, 0, none⟩ (.int .i64 0)) := hc3.ext hx2 (by omega)
    refine wp_name (fun w3 => Ext w0 w3 ∧ Blk w3 w1.heap.size (.cells (rcCells (mV p n cap) h d) 122) ∧ Blk w3 (w1.heap.size + 1) (.cells #[.int .i64 0] 32) ∧ w1.heap.size + 1 < w3.heap.size) ⟨he1.trans hx3, hc3.blk hcl (by omega), Blk.setCell hb9, by have := Blk.lt (Blk.setCell (i := 0) (v := .int .i64 0) hb9); exact this⟩ ?_
    have hcb0 := he1.size
    generalize w1.heap.size = cb at *
    clear hc3 hx2 hx3 hb9 hc2 hcl he1 c9 f9
    rintro w3 ⟨he3, hcl, heb, hz3⟩
    have c9 : w3.cell? ⟨cb + 1, 0, none⟩ = some (.int .i64 0) := Blk.val heb 0 _ rfl
    have c3 : w3.cell? ⟨ab, 0, none⟩ = some (.int .i64 a) := Blk.val (he3.blk _ _ hb3) 0 _ rfl
    have c7 : w3.cell? ⟨cb, 29, none⟩ = some (.int .i64 (slN d)) := Blk.val hcl 29 _ rfl
    have hcb3 := Blk.lt hcl
    go_upto_region 4 with (fail)
    have hs0 : ¬ slN d = 0 := by omega
    obtain ⟨dv, hdv⟩ : ∃ dv, max 0 a / slN d = dv := ⟨_, rfl⟩
    have hd0 : 0 ≤ max 0 a / slN d := Int.ediv_nonneg (by omega) (by omega)
    have hd1 : max 0 a / slN d ≤ max 0 a := Int.ediv_le_self _ (by omega)
    have hst : startU d a = 1 + dv := by unfold startU; rw [hdv]
    rw [hdv] at hd0 hd1
    have hd3 : dv ≤ 1099511627776 := by omega
    rw [hst] at HR
    clear hst hd1
    have Hcl := Lib.hid hcl
    have Heb := Lib.hid heb
    have hzr := he3.size
    have hbb1 := Blk.lt hb1
    have hbb2 := Blk.lt hb2
    have hbb3 := Blk.lt hb3
    have hab3 : ab < w3.heap.size := by omega
    have HRec := Lib.hid (fun w' (e : Ext w3 w') => (used_any (mV p n cap) h d (1 + dv) 0 (cb + 1) w' (e.blk _ _ Heb.out)).mono (show ∀ (e' : Ending) (w'' : World), _ → (∃ v, e' = .returned v ∧ Ext w' w'' ∧ UtF w3.heap.size (cb + 1) (mV p n cap) h d (1 + dv) 0 v w'') from fun e' w'' ⟨h1, g1, g0, g2, h2, h3, h4⟩ => ⟨_, h3, h1, g1, g0, g2, Nat.le_trans e.size h2, rfl, h4⟩))
    refine wp_region_mk 200 (Ext.refl w3) (by kernel_rfl) (by kernel_rfl) (by kernel_rfl) ?_
    simp only [List.take_succ_cons, List.take_zero, List.take_nil, List.drop_succ_cons, List.drop_zero, List.drop_nil, List.map_cons, List.map_nil]
    repeat (first
      | (refine wpML_det (o := ⟨some 25, _, _, _, _, _⟩) (v := .agg (rcCells (mV p n cap) h d)) rfl ?_ ?_
         · intro a w' he hr K hK
           simp [Reads, Oper.looksAt, Op.operands, factAt, Is] at hr
           exact wp_load_row 122 (.tmp 11) rfl (cb) (by go_simp) _ _ _ _ (he.blk _ _ Hcl.out) rcDesc rfl rcSize (hK _ (Ext.refl _))
         simp only [setL, List.set_cons_succ, List.set_cons_zero])
      | (refine wpML_move _ _ rfl (by first | exact .inl rfl | exact .inr rfl) rfl (by first | exact Is.stable _ | exact AllF.stable _ _ | exact RowsF.stable _ _ _ _ _ | exact AppF.stable _ | exact WrF.stable _ | exact PtrF.stable _ _ | exact IfcF.stable (Fresh.stable _ _ _) _ | exact PairF.stable (RowF.stable _ _ _ _) _ | exact RowF.stable _ _ _ _ | exact Fresh.stable _ _ _) ?_
         simp only [setL, List.set_cons_succ, List.set_cons_zero, List.getD_cons_succ, List.getD_cons_zero])
      | (refine wpML_moveC _ rfl (by first | exact .inl rfl | exact .inr rfl) ?_
         simp only [setL, List.set_cons_succ, List.set_cons_zero])
      | (apply wpML_det rfl
         · intro a w' he hr K hK
           simp [Reads, Oper.looksAt, Op.operands, Call.operands, factAt, Is] at hr
           have hx := he.cell
           go_simp
           try go_bits
           try (rw [if_neg (by omega)]; go_simp)
           first
             | exact hK _ (Ext.refl _)
         simp only [setL, List.set_cons_succ, List.set_cons_zero])
      | (refine wpML_fact (o := ⟨some 32, _, _, _, _, _⟩) (UtF w3.heap.size (cb + 1) (mV p n cap) h d (1 + dv) 0) (UtF.stable _ _ _ _ _ _ _) rfl ?_ ?_
         · intro a w' he hr K hK
           simp [Reads, Oper.looksAt, Op.operands, Call.operands, factAt, Is] at hr
           go_simp
           refine ((HRec.out w' he)).mono ?_
           rintro e w'' ⟨v, rfl, he', hf⟩
           exact hK _ _ he' hf
         simp only [setL, List.set_cons_succ, List.set_cons_zero])
      | (apply wpML_det rfl
         · intro a w' he hr K hK
           simp [Reads, Oper.looksAt, Op.operands, Call.operands, factAt, Fresh] at hr
           obtain ⟨b, hr1, hr2⟩ := hr
           go_simp
           exact hK _ (Ext.refl _)
         simp only [setL, List.set_cons_succ, List.set_cons_zero]))
    intro w2 he2
    repeat (first | with_reducible refine rest_is _ _ _ _ ?_ | (with_reducible refine rest_fact _ _ _ _ ?_; intro _ _) | with_reducible refine rest_end _ _ ?_)
    simp only [List.reverse_cons, List.reverse_nil, List.nil_append, List.cons_append]
    rename_i x32 h32
    obtain ⟨g1, g0, g2, hg1, rfl, hit⟩ := h32
    have hE4 : Ext w w2 := (he0.trans he3).trans he2
    have hnv4 := hnv.ext (he3.trans he2)
    have hb34 := (he3.trans he2).blk _ _ hb3
    have HIt := used_iter p n cap m h d (1 + dv) g1 g0 g2 (cb + 1) w w2 Hs.out Hn.out Hm.out Hv3.out p4 (by omega) hE4 (by omega) (by omega) hit (fun _ _ => False) (fun _ _ _ h => h)
    have hz12 := he3.size
    have hzw2 := hE4.size
    have hnc : nb + 1 + 1 < cb := by have := Blk.lt hnv.c3; omega
    have hgn : nb + 1 + 1 < g1 := by have := Blk.lt hnv.c3; omega
    generalize hRR : scanU m d h.fin (1 + dv) = R at *
    clear hRR
    have Hit := Lib.hid HIt
    clear HIt hit Hcl Heb he0 he3 he2 c9 c3 c7 hdv HRec hb1 hb2 hb3 hnv
    go_wp2_with fail
    refine wp_rangeFunc_kc (n0 := w.heap.size) hE4.size (tI := tIt g1 (cb + 1)) rfl (enters_of Tryd.func108 (by kernel_rfl) rfl) (encs := encU) (fun x => rfl) (fun xs A B k hS => ⟨hS.1, k.blk hS.2 (fun h => h)⟩) (fun xs A B k hS => hS) Hit.out
      (NxI w nb ab a) (NxX w nb a)
      ?hI ?hIx ⟨hE4, hb34, hnv4, fun _ h => by simp at h⟩ ?round ?done ?stop
    case hI =>
      rintro pre A B k ⟨h1, h2, h3, h4⟩
      exact ⟨Ext.trans' h1 k.below, k.blk h2 (by rintro (⟨h, _⟩ | ⟨h, _⟩) <;> omega), h3.kc k (by omega) (by omega), h4⟩
    case hIx =>
      rintro c pre A B k ⟨h0, h1, pre', x, h2, h3, h4, h5⟩
      exact ⟨h0, Ext.trans' h1 k.below, pre', x, h2, h3, h4, h5.kc k (by omega) (by omega)⟩
    case round =>
      rintro l pre x W hz ⟨hex, hba, hnw, hno⟩ hnx
      dsimp only [encU]
      gi_wp2
      refine ⟨KeepsFrom.refl _ _, ?_⟩
      intro W2 hk2 hz2
      have hba2 := hk2.blk hba (fun h => h)
      have hex2 : Ext w W2 := Ext.trans' hex hk2.below
      have hnw2 : NvAt nb 0 [] 0 W2 := ⟨hk2.blk hnw.c1 (fun h => h), hk2.blk hnw.c2 (fun h => h), hk2.blk hnw.c3 (fun h => h)⟩
      have hkc : Kc w.heap.size (fun _ _ => False) W W2 := hk2
      have c0 : W2.cell? ⟨ab, 0, none⟩ = some (.int .i64 a) := Blk.val hba2 0 _ rfl
      have Hfin := Lib.hid (show Kc w.heap.size (fun _ _ => False) W W2 ∧ Ext w W2 ∧ Blk W2 ab (.cells #[.int .i64 a] 3) ∧ NvAt nb 0 [] 0 W2 from ⟨hkc, hex2, hba2, hnw2⟩)
      have Hno := Lib.hid hno
      have d1 : W2.cell? ⟨nb, 0, none⟩ = some (.int .i64 0) := Blk.val hnw2.c1 0 _ rfl
      have d2 : W2.cell? ⟨nb + 1, 0, none⟩ = some (.string ⟨#[]⟩) := Blk.val hnw2.c2 0 _ rfl
      have d3 : W2.cell? ⟨nb + 1 + 1, 0, none⟩ = some (.int .i64 0) := Blk.val hnw2.c3 0 _ rfl
      have f1 : W2.frozen? ⟨nb, 0, none⟩ = false := Blk.free hnw2.c1 0
      have f2 : W2.frozen? ⟨nb + 1, 0, none⟩ = false := Blk.free hnw2.c2 0
      have f3 : W2.frozen? ⟨nb + 1 + 1, 0, none⟩ = false := Blk.free hnw2.c3 0
      have hzn := Blk.lt hnw.c3
      obtain ⟨xa, xr⟩ := x
      clear hba hba2 hex hex2 hnw hnw2 hkc hk2 hz2 hno
      refine wpIn_block ?_
      by_cases hlt : a < xa
      · have hltI : decide (a < xa) = true := decide_eq_true hlt
        gi_wp2
        have hns := nv_set0 Hfin.out.2.2.2 xa xr 0
        exact ⟨hns.2.2 _, rfl, hns.2.1 w Hfin.out.2.1 hwn, pre, (xa, xr), rfl, fun y hy => by have := Hno.out y hy; omega, by show a < xa; omega, hns.1⟩
      · have hltI : decide (a < xa) = false := decide_eq_false hlt
        gi_wp2
        exact ⟨KeepsFrom.refl _ _, Hfin.out.1, Hfin.out.2.1, Hfin.out.2.2.1, Hfin.out.2.2.2, fun y hy => by
          rw [List.mem_append] at hy
          rcases hy with hy | hy
          · have := Hno.out y hy; omega
          · simp at hy; subst hy; show ¬ a < xa; omega⟩
    case done =>
      rintro D xs W hD ⟨rfl, heb⟩ ⟨hex, hba, hnw, hno⟩ hK
      obtain ⟨RL, RE⟩ := R
      simp only at heb hno HR
      have HR3 : Hid (nextU m h d a = ((0, []), if RE = 0 then 6 else RE)) := Lib.hid (by rw [HR.out, find_none hno])
      have c12 : W.cell? ⟨cb + 1, 0, none⟩ = some (.int .i64 RE) := Blk.val heb 0 _ rfl
      have f12 : W.frozen? ⟨cb + 1, 0, none⟩ = false := Blk.free heb 0
      dsimp only
      have Hst := Lib.hid (show Ext w W ∧ NvAt nb 0 [] 0 W ∧ Blk W (cb + 1) (.cells #[.int .i64 RE] 32) ∧ W.heap[D]? = some (.deferred (some [])) from ⟨hex, hnw, heb, hK⟩)
      clear hex hba hnw hno hK heb
      by_cases hre : RE = 0
      · subst hre
        go_upto_region 11 with (fail)
        have hc := Chg.setCell (w := W) (g := cb + 1) (i := 0) (v := .int .i64 6)
        refine wp_name (fun W' => Ext w W' ∧ NvAt nb 0 [] 0 W' ∧ Blk W' (cb + 1) (.cells #[.int .i64 6] 32) ∧ W'.heap[D]? = some (.deferred (some []))) ⟨hc.ext Hst.out.1 (by omega), ⟨hc.blk Hst.out.2.1.c1 (by omega), hc.blk Hst.out.2.1.c2 (by omega), hc.blk Hst.out.2.1.c3 (by omega)⟩, Blk.setCell Hst.out.2.2.1, (KeepsFrom.of_chg (B := 0) hc Hst.out.2.2.1).same _ _ (Nat.zero_le _) Hst.out.2.2.2 rfl⟩ ?_
        clear hc c12 f12 Hst
        rintro W' ⟨hex, hnw, heb, hK⟩
        have c9 : W'.cell? ⟨cb + 1, 0, none⟩ = some (.int .i64 6) := Blk.val heb 0 _ rfl
        have d1 : W'.cell? ⟨nb, 0, none⟩ = some (.int .i64 0) := Blk.val hnw.c1 0 _ rfl
        have d2 : W'.cell? ⟨nb + 1, 0, none⟩ = some (.string ⟨#[]⟩) := Blk.val hnw.c2 0 _ rfl
        have d3 : W'.cell? ⟨nb + 1 + 1, 0, none⟩ = some (.int .i64 0) := Blk.val hnw.c3 0 _ rfl
        have f1 : W'.frozen? ⟨nb, 0, none⟩ = false := Blk.free hnw.c1 0
        have f2 : W'.frozen? ⟨nb + 1, 0, none⟩ = false := Blk.free hnw.c2 0
        have f3 : W'.frozen? ⟨nb + 1 + 1, 0, none⟩ = false := Blk.free hnw.c3 0
        have hne : cb + 1 ≠ nb + 1 + 1 := by omega
        have hne2 : cb + 1 ≠ nb + 1 := by omega
        have hne3 : cb + 1 ≠ nb := by omega
        have Hnw := Lib.hid hnw
        have Hex := Lib.hid hex
        have HK := Lib.hid hK
        clear hnw hex hK heb
        go_region
        all_goals
          go_wp2_with fail
          have hns := nv_set Hnw.out 0 [] (6)
          have hK2 := (hns.2.2 0).same _ _ (Nat.zero_le _) HK.out rfl
          have hkp := Kc.of_put (n0 := w.heap.size) (tc := fun _ _ => False) (.deferred none) hK2 rfl (by omega)
          exact postM_mark hK2 (results_nvR ⟨hkp.blk hns.1.c1 (fun h => h), hkp.blk hns.1.c2 (fun h => h), hkp.blk hns.1.c3 (fun h => h)⟩ rfl rfl rfl) ⟨by rw [HR3.out]; try rfl, Ext.trans' (hns.2.1 w Hex.out hwn) hkp.below⟩
      · have hreI : (RE == 0) = false := by simpa using hre
        rw [if_neg hre] at HR3
        clear hre
        go_upto_region 11 with (fail)
        refine wp_name (fun W' => Ext w W' ∧ NvAt nb 0 [] 0 W' ∧ Blk W' (cb + 1) (.cells #[.int .i64 RE] 32) ∧ W'.heap[D]? = some (.deferred (some []))) Hst.out ?_
        clear c12 f12 Hst
        rintro W' ⟨hex, hnw, heb, hK⟩
        have c9 : W'.cell? ⟨cb + 1, 0, none⟩ = some (.int .i64 RE) := Blk.val heb 0 _ rfl
        have d1 : W'.cell? ⟨nb, 0, none⟩ = some (.int .i64 0) := Blk.val hnw.c1 0 _ rfl
        have d2 : W'.cell? ⟨nb + 1, 0, none⟩ = some (.string ⟨#[]⟩) := Blk.val hnw.c2 0 _ rfl
        have d3 : W'.cell? ⟨nb + 1 + 1, 0, none⟩ = some (.int .i64 0) := Blk.val hnw.c3 0 _ rfl
        have f1 : W'.frozen? ⟨nb, 0, none⟩ = false := Blk.free hnw.c1 0
        have f2 : W'.frozen? ⟨nb + 1, 0, none⟩ = false := Blk.free hnw.c2 0
        have f3 : W'.frozen? ⟨nb + 1 + 1, 0, none⟩ = false := Blk.free hnw.c3 0
        have hne : cb + 1 ≠ nb + 1 + 1 := by omega
        have hne2 : cb + 1 ≠ nb + 1 := by omega
        have hne3 : cb + 1 ≠ nb := by omega
        have Hnw := Lib.hid hnw
        have Hex := Lib.hid hex
        have HK := Lib.hid hK
        clear hnw hex hK heb
        go_region
        all_goals
          go_wp2_with fail
          have hns := nv_set Hnw.out 0 [] (RE)
          have hK2 := (hns.2.2 0).same _ _ (Nat.zero_le _) HK.out rfl
          have hkp := Kc.of_put (n0 := w.heap.size) (tc := fun _ _ => False) (.deferred none) hK2 rfl (by omega)
          exact postM_mark hK2 (results_nvR ⟨hkp.blk hns.1.c1 (fun h => h), hkp.blk hns.1.c2 (fun h => h), hkp.blk hns.1.c3 (fun h => h)⟩ rfl rfl rfl) ⟨by rw [HR3.out]; try rfl, Ext.trans' (hns.2.1 w Hex.out hwn) hkp.below⟩
    case stop =>
      rintro D c pre W hD hS ⟨rfl, hex, pre', x, rfl, hno, hlt, hnw⟩ hK
      have HR3 : Hid (nextU m h d a = (x, 0)) := Lib.hid (by rw [HR.out, find_pre hno hlt hS])
      have hkp := Kc.of_put (n0 := w.heap.size) (tc := fun _ _ => False) (.deferred none) hK rfl (by omega)
      have HKP := Lib.hid hkp
      have HN := Lib.hid hnw
      have HX := Lib.hid hex
      have HK := Lib.hid hK
      clear hkp hnw hex hK hS hno
      dsimp only
      go_wp2_with fail
      refine postM_mark HK.out (results_nvR ⟨HKP.out.blk HN.out.c1 (fun h => h), HKP.out.blk HN.out.c2 (fun h => h), HKP.out.blk HN.out.c3 (fun h => h)⟩ rfl rfl rfl) ⟨by rw [HR3.out], Ext.trans' HX.out HKP.out.below⟩
  · have Hop2 : Hid (∀ w, Calls Tryd.prog 67 #[mV p n cap, .agg #[.int .i64 h.applied, .int .i64 h.count, .int .i64 h.fin, .int .i64 h.root, .int .i64 h.height, .int .i64 h.splits, .int .i64 h.areas], .agg #[.int .i64 d.id, .int .i64 d.org, .int .i64 d.format, .int .i64 d.length, .int .i64 d.block, .int .i64 d.keyAt, .int .i64 d.keyLength, .int .i64 d.interval, .int .i64 d.area, .int .i64 d.freeInterval, .int .i64 d.freeArea, .int .i64 d.base, .int .i64 d.altAt, .int .i64 d.altLength, .bool d.unique, .int .i64 d.cls, .string ⟨d.volume.toArray⟩, .string ⟨d.owner.toArray⟩, .int .i64 d.created, .int .i64 d.expires, .bool d.archived]] w fun e w' => e = .returned (.tuple #[.agg rcZero, .int .i64 (doorOf h d 2)]) ∧ Ext w w') :=
      Lib.hid (fun w => (Hop.out w).mono fun e w' ⟨he, h⟩ => by
        rcases h with ⟨h, _⟩ | ⟨_, h⟩
        · exact absurd h hdo
        · exact ⟨h, he⟩)
    clear Hop
    have HR : Hid (nextU m h d a = ((0, []), doorOf h d 2)) := Lib.hid (by unfold nextU; rw [if_pos hdo])
    have hdI : (doorOf h d 2 != 0) = true := by simpa using hdo
    generalize doorOf h d 2 = er at *
    clear hdo
    go_upto_region 3 with (first | (refine wpList_ds rfl (.tmp 6) rfl _ rfl d hb2 ?_) | (refine wpList_hd rfl (.tmp 5) rfl _ rfl h hb1 ?_) | (go_at_call 67; refine (Hop2.out _).mono ?_; rintro e w1 ⟨rfl, he1⟩) | (refine wpList_put rfl 122 (.tmp 11) (.tmp 20) rfl _ rcZero rfl rfl _ _ (Blk.alloc (Blk.new w1 _) _) rcSize rfl rcZero_one ?_; intro w2 hcl hc2; have hb9 := hc2.blk (Blk.new1 (w1.alloc (.cells rcZero 122)) (.cells #[.int .i64 0] 32) (w1.heap.size + 1) (by simp)) (by omega); have c9 := (show w2.cell? ⟨w1.heap.size + 1, 0, none⟩ = some (.int .i64 0) from Blk.val hb9 0 _ rfl); have f9 := (show w2.frozen? ⟨w1.heap.size + 1, 0, none⟩ = false from Blk.free hb9 0)))
    have hx2 : Ext w1 w2 := hc2.ext ((Ext.alloc _ _).trans (Ext.alloc _ _)) (Nat.le_refl _)
    have hc3 := Chg.setCell (w := w2) (g := w1.heap.size + 1) (i := 0) (v := .int .i64 er)
    have hx3 : Ext w1 (w2.setCell ⟨w1.heap.size + 1, 0, none⟩ (.int .i64 er)) := hc3.ext hx2 (by omega)
    refine wp_name (fun w3 => Ext w0 w3 ∧ Blk w3 (w1.heap.size + 1) (.cells #[.int .i64 er] 32)) ⟨he1.trans hx3, Blk.setCell hb9⟩ ?_
    have hcb0 := he1.size
    generalize w1.heap.size = cb at *
    clear hc3 hx2 hx3 hb9 hc2 hcl he1 c9 f9
    rintro w3 ⟨he3, heb⟩
    have hnv3 := hnv.ext he3
    have hzn := Blk.lt hnv.c3
    have hne : cb + 1 ≠ nb + 1 + 1 := by have := Blk.lt hnv.c3; omega
    have hne2 : cb + 1 ≠ nb + 1 := by omega
    have hne3 : cb + 1 ≠ nb := by omega
    have c9 : w3.cell? ⟨cb + 1, 0, none⟩ = some (.int .i64 er) := Blk.val heb 0 _ rfl
    have d1 : w3.cell? ⟨nb, 0, none⟩ = some (.int .i64 0) := Blk.val hnv3.c1 0 _ rfl
    have d2 : w3.cell? ⟨nb + 1, 0, none⟩ = some (.string ⟨#[]⟩) := Blk.val hnv3.c2 0 _ rfl
    have d3 : w3.cell? ⟨nb + 1 + 1, 0, none⟩ = some (.int .i64 0) := Blk.val hnv3.c3 0 _ rfl
    have f1 : w3.frozen? ⟨nb, 0, none⟩ = false := Blk.free hnv3.c1 0
    have f2 : w3.frozen? ⟨nb + 1, 0, none⟩ = false := Blk.free hnv3.c2 0
    have f3 : w3.frozen? ⟨nb + 1 + 1, 0, none⟩ = false := Blk.free hnv3.c3 0
    have Hnv3 := Lib.hid hnv3
    have HE3 := Lib.hid (he0.trans he3)
    clear hnv3 hnv he0 he3 heb hzn hb1 hb2 hb3
    go_region
    all_goals
      go_wp2_with fail
      exact postM_ret (results_nvR (nv_set Hnv3.out 0 [] er).1 rfl rfl rfl) ⟨by rw [HR.out], (nv_set Hnv3.out 0 [] er).2.1 w HE3.out hwn⟩
end Go.Proofs.YtjgdhlpnpihkdaaDoor
/- The walk of plain: can a description and operations be used? -/
namespace Go.Proofs.YtjgdhlpnpihkdaaDoor
open Go.RowKit Dsd

def plainB (d : DS) (L : List (Int × List UInt8)) : Bool := fewB L 40 && (validB d && d.org == 2)
theorem plainB_at {d : DS} {L : List (Int × List UInt8)} (h : plainB d L = true) : L.length ≤ 40 ∧ (∀ i, (L.getD i (0, [])).2.length ≤ 300) ∧ validB d = true ∧ d.org = 2 := by
  unfold plainB at h
  simp only [Bool.and_eq_true, beq_iff_eq] at h
  obtain ⟨h1, h2⟩ := fewB_at h.1
  exact ⟨h1, h2, h.2.1, h.2.2⟩
set_option maxRecDepth 100000 in
theorem plain_any (p : Option Addr) (cap n : Nat) (L : List (Int × List UInt8)) (d : DS) (w : World) (hs : Opsl w p L) (hn : L.length = n) (hL : n ≤ maxLen) (hmax : ∀ i, (L.getD i (0, [])).2.length ≤ maxLen) :
    Calls Tryd.prog 42 #[.agg #[.int .i64 d.id, .int .i64 d.org, .int .i64 d.format, .int .i64 d.length, .int .i64 d.block, .int .i64 d.keyAt, .int .i64 d.keyLength, .int .i64 d.interval, .int .i64 d.area, .int .i64 d.freeInterval, .int .i64 d.freeArea, .int .i64 d.base, .int .i64 d.altAt, .int .i64 d.altLength, .bool d.unique, .int .i64 d.cls, .string ⟨d.volume.toArray⟩, .string ⟨d.owner.toArray⟩, .int .i64 d.created, .int .i64 d.expires, .bool d.archived], .slice p n cap] w fun e w' => e = .returned (.bool (plainB d L)) ∧ Ext w w' := by
  have Hsm := Lib.hid (fun w h => SmallOps_any p cap n L 40 w h hn hL hmax)
  have Hs := Lib.hid hs
  have Hv := Lib.hid (Valid_ref d)
  have HP : Hid (plainB d L = (fewB L 40 && (validB d && d.org == 2))) := Lib.hid rfl
  rw [HP.out]
  clear hs hL hmax
  generalize fewB L 40 = f at *
  generalize hv : validB d = v at *
  clear hn
  go_enter Tryd.func42, Tryd.ntmps42
  go_upto_region 1 with (fail)
  refine wp_name (fun w0 => Ext w w0 ∧ DsAt w0 w.heap.size d) ⟨Ext.alloc _ _, Blk.new w _⟩ ?_
  rintro w0 ⟨he0, hb2⟩
  have c1 : w0.cell? ⟨w.heap.size, 1, none⟩ = some (.int .i64 d.org) := Blk.val hb2 1 _ rfl
  have hl := Blk.lt hb2
  cases f
  · go_wp2_with (go_at_call 37; refine (Hsm.out _ (Hs.out.ext he0)).mono ?_; rintro e w1 ⟨rfl, rfl⟩)
    go_ret
    exact ⟨rfl, he0⟩
  · cases v
    · go_wp2_with (first
        | (go_at_call 37; refine (Hsm.out _ (Hs.out.ext he0)).mono ?_; rintro e w1 ⟨rfl, rfl⟩)
        | (refine wpList_ds rfl (.tmp 2) rfl _ rfl d hb2 ?_)
        | (go_at_call 23; refine (Hv.out _).mono ?_; rintro e w2 ⟨rfl, he2⟩))
      go_ret
      exact ⟨rfl, he0.trans he2⟩
    · go_wp2_with (first
        | (go_at_call 37; refine (Hsm.out _ (Hs.out.ext he0)).mono ?_; rintro e w1 ⟨rfl, rfl⟩)
        | (refine wpList_ds rfl (.tmp 2) rfl _ rfl d hb2 ?_)
        | (go_at_call 23; refine (Hv.out _).mono ?_; rintro e w2 ⟨rfl, he2⟩; have c2 := (he2.cell _ _ hl).trans c1; have hl2 := Nat.lt_of_lt_of_le hl he2.size))
      go_ret
      exact ⟨ret_bool (by simp), he0.trans he2⟩
theorem iter_cells {w : World} {mb rt n cnt : Nat} {g : Wnt} {left : Int → Bool} (h : WantIter Tryd.prog 3 9 w mb rt n g left cnt) {b : Nat} {cs : Array Value} {u : TypeId} (hb : Blk w b (.cells cs u)) : b ≠ rt := by
  obtain ⟨D, lf, sz, ⟨es, clock, since, seen, c0, _, _, _, _, hr, _⟩, _⟩ := h
  rintro rfl
  have := hr.symm.trans hb
  simp at this
theorem own_chgI {w w' : World} {mb rt k cnt : Nat} {g : Wnt} {left : Int → Bool} (hm : WantIter Tryd.prog 3 9 w mb rt k g left cnt) (c : Chg rt w w') {base : Nat} {e : TypeId} {size : Nat} {v : Value} {n : Nat} {xs : List Value} (h : w.ownsRow base e size v n xs) : w'.ownsRow base e size v n xs := by
  refine ⟨h.1, ?_⟩
  rcases h.2 with hn | ⟨b, cap, cur, rfl, hb, hg, rest⟩
  · exact .inl hn
  · exact .inr ⟨b, cap, cur, rfl, hb, c.blk hg (iter_cells hm hg), rest⟩
theorem strs_addr {w : World} {q : Option Addr} {M : List (List UInt8)} (h : Strs w q M) (hM : 0 < M.length) : ∃ ad, q = some ad := by
  rcases h with h | ⟨b, off, hq, _⟩
  · simp at h; subst h; simp at hM
  · exact ⟨_, hq⟩
end Go.Proofs.YtjgdhlpnpihkdaaDoor
/- The walk of the law RelativeOrder. -/
namespace Dsd
open Go Go.RowKit
/-- m[x], where the operation is wanted. -/
theorem wpList_want_getW {P : Program} {t k e : TypeId} {w : World} {mb n : Nat} {g : Wnt} {sz : Nat} {ops : Array Oper} {rest : List Oper} {o : Oper} {a : Act} {Q : Exit → Act → World → Prop} (T : MapTy P t k e) (hw : Region.wanted o (yielded ops a.tmps) = true) (m x : Operand) (hop : o.op = Op.lookup t m x false) (hm : a.eval m = .map (some mb)) (h : WantAt P k e w mb n g sz) (y : Int) (hx : a.eval x = .int .i64 y) (hy : (Lit.int .i64 y).wf = true) (v : List UInt8) (hv : (g y).getD [] = v)
    (hK : wpList P ops Q rest (a.put o.dst (.string ⟨v.toArray⟩)) w) : wpList P ops Q (o :: rest) a w := by
  obtain ⟨D, hown, hs⟩ := h
  obtain ⟨v', ps, hrun, hv'⟩ := hown.lookup (Maps.int_keyed T.key) T.map (T.zero w) (zero_reads T) (Maps.keyOf_int_mk T.key hy)
  rw [want_val T hs hv', hv] at hrun
  refine BigFrame.wpList_want hw fun K' hK' => ?_
  unfold Oper.wp
  simp [execOp, hop, hm, hx, hrun, Result.andThen]
  exact hK' _ _ hK
end Dsd
namespace Go.Proofs.YtjgdhlpnpihkdaaDoor
open Go.RowKit Dsd

/-- What stands in the loop over the map. -/
structure Ord (w : World) (mb rt : Nat) (n : Nat) (g : Wnt) (a : Int) (v : Value) (wr : World) : Prop where
  ext : Ext w wr
  iter : ∃ left cnt, WantIter Tryd.prog 3 9 wr mb rt n g left cnt ∧ ∃ l : Int, v = .int .i64 l ∧ ((l = 0 ∧ ∀ k, (g k).isSome = true → a < k → left k = true) ∨ (1 ≤ l ∧ (Lit.int .i64 l).wf = true ∧ a < l ∧ (g l).isSome = true ∧ ∀ k, (g k).isSome = true → a < k → left k = false → l ≤ k))
theorem wantF_pos {F : List Slt} {x : Int} (h : (wantF F x).isSome = true) : 1 ≤ x := by
  unfold wantF at h
  split at h
  · rename_i h1; exact h1.1
  · simp at h
set_option maxRecDepth 100000 in
set_option maxHeartbeats 4000000 in
theorem RelativeOrder_any (p : Option Addr) (cap n : Nat) (L : List (Int × List UInt8)) (d : DS) (a : Int) (w : World) (hs : Opsl w p L) (hn : L.length = n) (hcap : n ≤ cap) (hcm : cap ≤ maxLen) (hmx : ∀ i, (L.getD i (0, [])).2.length ≤ maxLen ∧ (Lit.int .i64 (L.getD i (0, [])).1).wf = true) :
    Calls Tryd.prog 10 #[.agg #[.int .i64 d.id, .int .i64 d.org, .int .i64 d.format, .int .i64 d.length, .int .i64 d.block, .int .i64 d.keyAt, .int .i64 d.keyLength, .int .i64 d.interval, .int .i64 d.area, .int .i64 d.freeInterval, .int .i64 d.freeArea, .int .i64 d.base, .int .i64 d.altAt, .int .i64 d.altLength, .bool d.unique, .int .i64 d.cls, .string ⟨d.volume.toArray⟩, .string ⟨d.owner.toArray⟩, .int .i64 d.created, .int .i64 d.expires, .bool d.archived], .slice p n cap, .int .i64 a] w fun e w' => e = .returned (.bool true) ∧ Ext w w' := by
  subst hn
  have Hs := Lib.hid hs
  have Hmx := Lib.hid hmx
  have HPl := Lib.hid (fun w' (h : Opsl w' p L) => plain_any p cap L.length L d w' h rfl (by omega) (fun i => (hmx i).1))
  have Hpb := Lib.hid (fun h => plainB_at (d := d) (L := L) h)
  clear hs hmx
  go_enter Tryd.func10, Tryd.ntmps10
  go_upto_region 1 with (fail)
  refine wp_name (fun w0 => Ext w w0 ∧ DsAt w0 w.heap.size d) ⟨Ext.alloc _ _, Blk.new w _⟩ ?_
  rintro w0 ⟨he0, hb3⟩
  go_upto_region 3 with (go_at_call 34; refine (awake19_any _).mono ?_; rintro e w1 ⟨rfl, he1⟩)
  have Hd := Lib.hid (hb3.ext he1)
  have HE1 := Lib.hid (he0.trans he1)
  have hd1 := Hd.out
  clear hb3 he0 he1
  generalize hpl : plainB d L = pb at *
  clear hpl
  have Hs1 := Lib.hid (Hs.out.ext HE1.out)
  cases pb
  · go_wp2_with (first
      | (refine wpList_ds (o := ⟨some 18, _, _, _, _, _⟩) rfl (.tmp 3) rfl _ rfl d hd1 ?_)
      | (go_at_call 42; refine (HPl.out _ Hs1.out).mono ?_; rintro e w2 ⟨rfl, he2⟩))
    go_ret
    exact ⟨rfl, HE1.out.trans he2⟩
  · by_cases ha : 1099511627776 < a
    · have haI : decide (1099511627776 < a) = true := decide_eq_true ha
      go_wp2_with (first
        | (refine wpList_ds (o := ⟨some 18, _, _, _, _, _⟩) rfl (.tmp 3) rfl _ rfl d hd1 ?_)
        | (go_at_call 42; refine (HPl.out _ Hs1.out).mono ?_; rintro e w2 ⟨rfl, he2⟩))
      go_ret
      exact ⟨rfl, HE1.out.trans he2⟩
    · have haI : decide (1099511627776 < a) = false := decide_eq_false ha
      obtain ⟨hL, hLs, hv, ho⟩ := Hpb.out rfl
      have HRun := Lib.hid (fun w' (h : Opsl w' p L) => run19_any p cap L.length L d w' h rfl hcap hcm hL hLs (fun i => (Hmx.out i).2) hv ho)
      have Hv := Lib.hid hv
      have Hor := Lib.hid ho
      have HL := Lib.hid hL
      clear hL hLs hv ho Hpb Hmx
      go_upto_region 6 with (first
        | (refine wpList_ds (o := ⟨some 18, _, _, _, _, _⟩) rfl (.tmp 3) rfl _ rfl d hd1 ?_)
        | (go_at_call 42; refine (HPl.out _ Hs1.out).mono ?_; rintro e w2 ⟨rfl, he2⟩; have hd2 := hd1.ext he2)
        | (refine wpList_ds (o := ⟨some 27, _, _, _, _, _⟩) rfl (.tmp 3) rfl _ rfl d hd2 ?_)
        | (go_at_call 43; refine (HRun.out _ (Hs1.out.ext he2)).mono ?_; rintro e w3 ⟨he3, H, M, F, k, q3, c3, mb, rfl, hRan, hst, hmb, hmap⟩)
        | (refine wpList_put rfl 24 (.tmp 7) (.tmp 30) rfl _ #[.int .i64 H.applied, .int .i64 H.count, .int .i64 H.fin, .int .i64 H.root, .int .i64 H.height, .int .i64 H.splits, .int .i64 H.areas] rfl rfl _ _ (Blk.new1 _ _ _ (by simp)) hdSize rfl (hd_one H) ?_; intro w4 hb4 hc4))
      have he5 : Ext w3 w4 := hc4.ext (Ext.alloc _ _) (Nat.le_refl _)
      refine wp_name (fun w5 => Ext w w5 ∧ HdAt w5 w3.heap.size H ∧ Strs w5 q3 M ∧ WantM w5 mb L.length F ∧ DsAt w5 w.heap.size d) ⟨HE1.out.trans (he2.trans (he3.trans he5)), hb4, hst.ext he5, WantAt.ext hmap he5, hd2.ext (he3.trans he5)⟩ ?_
      clear hb4 hc4 hst hmap he5 he3 hd2 hd1 Hd he2 HE1 Hs1 hmb HPl HRun
      rintro w5 ⟨hE5, hb7, hst, hmap, hd3⟩
      generalize w3.heap.size = hb at *
      obtain ⟨hMs, hMp⟩ := hRan.small (by have := HL.out; omega)
      obtain ⟨ad, rfl⟩ := strs_addr hst hMp
      have HN := Lib.hid (fun w' (e : Ext w5 w') => NextR_any (some ad) M.length c3 M H d a (by omega) w' (hst.ext e) rfl hMs)
      have HNx := Lib.hid (hRan.next Hv.out Hor.out (by have := HL.out; omega) a)
      simp only at HNx
      generalize nextU M H d a = nx at *
      obtain ⟨⟨nn, ns⟩, ne⟩ := nx
      have hwn : w.heap.size ≤ w5.heap.size := hE5.size
      go_upto_region 8 with (first
        | (refine wpList_hd (o := ⟨some 37, _, _, _, _, _⟩) rfl (.tmp 7) rfl _ rfl H hb7 ?_)
        | (refine wpList_ds (o := ⟨some 38, _, _, _, _, _⟩) rfl (.tmp 3) rfl _ rfl d hd3 ?_)
        | (go_at_call 45; refine (HN.out _ (Ext.refl _)).mono ?_; rintro e w6 ⟨rfl, he6⟩))
      go_upto_region 9 with (at_range; refine wpList_want_range wantTy rfl _ rfl rfl (WantAt.ext hmap he6) ?_; intro w10 hit he10 hsz)
      go_frame
      refine wp_name (fun w10 => Ord w mb w6.heap.size L.length (wantF F) a (.int .i64 0) w10) ⟨hE5.trans (he6.trans he10), _, _, hit, 0, rfl, .inl ⟨rfl, fun k hk _ => hk⟩⟩ ?_
      have hrt : w.heap.size ≤ w6.heap.size := (hE5.trans he6).size
      clear hit he10 hE5 he6 hb7 hst hmap hd3 HN hsz
      rintro wa hO
      generalize w6.heap.size = rt at *
      have HO0 := Lib.hid hO
      clear hO
      go_loopw [14] (fun v wr => Ord w mb rt L.length (wantF F) a v wr) (fun v wr => wr.rangeLeft mb rt)
      case atStart => exact HO0.out
      case round =>
        obtain ⟨hext, left, cnt, hit, l, rfl, hl⟩ := hrel
        have Hext := Lib.hid hext
        have Hl := Lib.hid hl
        have Hle := Lib.hid hit.left_eq
        have Hit0 := Lib.hid hit
        clear hext hl
        go_upto_region 10 with (at_next; refine wpList_want_next wantTy rfl _ rfl rfl hit ?_ ?_)
        · intro hno
          obtain ⟨sz, hat⟩ := Hit0.out.at
          have Hat := Lib.hid hat
          rcases HNx.out with ⟨hnx, hnone⟩ | ⟨x, r, hnx, hax, hwx, hleast⟩
          · obtain ⟨⟨rfl, rfl⟩, rfl⟩ : (nn = 0 ∧ ns = []) ∧ ne = 6 := by simpa using hnx
            have hl0 : l = 0 := by
              rcases Hl.out with ⟨h, _⟩ | ⟨_, _, h1, h2, _⟩
              · exact h
              · rw [hnone l h1] at h2; simp at h2
            subst hl0
            clear hnx hnone hno hat hit Hl
            go_wp2_with fail
            go_ret
            exact ⟨rfl, Hext.out⟩
          · obtain ⟨⟨rfl, rfl⟩, rfl⟩ : (nn = x ∧ ns = r) ∧ ne = 0 := by simpa using hnx
            have hl1 : 1 ≤ l ∧ (Lit.int .i64 l).wf = true ∧ l = nn := by
              rcases Hl.out with ⟨_, h⟩ | ⟨h0, hw, h1, h2, h3⟩
              · have := h nn (by rw [hwx]; rfl) hax
                rw [hno] at this; cases this
              · refine ⟨h0, hw, ?_⟩
                have h4 := h3 nn (by rw [hwx]; rfl) hax (hno nn)
                have h5 := hleast l h1 h2
                omega
            obtain ⟨hl0, hlw, rfl⟩ := hl1
            have hlI : (l == 0) = false := by simp; omega
            have hne0 : l ≠ 0 := by omega
            have Hlw := Lib.hid hlw
            have Hv : Hid ((wantF F l).getD [] = ns) := Lib.hid (by rw [hwx]; rfl)
            clear hnx hleast hno hat hit Hl hwx hlw
            go_wp2_with (at_lookup; refine wpList_want_getW wantTy (by rfl) _ _ rfl rfl Hat.out l rfl Hlw.out ns Hv.out ?_)
            go_ret
            exact ⟨rfl, Hext.out⟩
        · intro k0 v0 w11 cnt' hkw hlk hgk hit' hlt hch hen
          have Hext1 : Hid (Ext w w11) := Lib.hid (hch.ext Hext.out hrt)
          have Hkw := Lib.hid hkw
          have hk1 := wantF_pos (F := F) (x := k0) (by rw [hgk]; rfl)
          have Hit := Lib.hid hit'
          have Hlt := Lib.hid hlt
          have Hgk := Lib.hid hgk
          have Hlk := Lib.hid hlk
          clear hkw hlk hgk hit' hlt hch hit
          go_upto_region 11 with (fail)
          by_cases hka : a < k0
          · have hkI : decide (a < k0) = true := decide_eq_true hka
            rcases Hl.out with ⟨rfl, h⟩ | ⟨h0, hw, h1, h2, h3⟩
            · go_wp2_with fail
              go_roundw
              case rel => exact ⟨Hext1.out, _, _, Hit.out, k0, rfl, .inr ⟨hk1, Hkw.out, hka, by rw [Hgk.out]; rfl, fun y hy hay hl => by
                have := h y hy hay
                rw [this] at hl
                simp at hl
                omega⟩⟩
              case measure => rw [Hle.out, Hit.out.left_eq]; exact Hlt.out
            · have hlI : (l == 0) = false := by simp; omega
              have hne0 : l ≠ 0 := by omega
              by_cases hkl : k0 < l
              · have hklI : decide (k0 < l) = true := decide_eq_true hkl
                go_wp2_with fail
                go_roundw
                case rel => exact ⟨Hext1.out, _, _, Hit.out, k0, rfl, .inr ⟨hk1, Hkw.out, hka, by rw [Hgk.out]; rfl, fun y hy hay hl => by
                  simp only [Bool.and_eq_false_iff, Bool.not_eq_false', decide_eq_true_eq] at hl
                  rcases hl with hl | hl
                  · have := h3 y hy hay hl; omega
                  · omega⟩⟩
                case measure => rw [Hle.out, Hit.out.left_eq]; exact Hlt.out
              · have hklI : decide (k0 < l) = false := decide_eq_false hkl
                go_wp2_with fail
                go_roundw
                case rel => exact ⟨Hext1.out, _, _, Hit.out, l, rfl, .inr ⟨h0, hw, h1, h2, fun y hy hay hl => by
                  simp only [Bool.and_eq_false_iff, Bool.not_eq_false', decide_eq_true_eq] at hl
                  rcases hl with hl | hl
                  · exact h3 y hy hay hl
                  · omega⟩⟩
                case measure => rw [Hle.out, Hit.out.left_eq]; exact Hlt.out
          · have hkI : decide (a < k0) = false := decide_eq_false hka
            go_wp2_with fail
            go_roundw
            case rel =>
              refine ⟨Hext1.out, _, _, Hit.out, l, rfl, ?_⟩
              rcases Hl.out with ⟨rfl, h⟩ | ⟨h0, hw, h1, h2, h3⟩
              · refine .inl ⟨rfl, fun y hy hay => ?_⟩
                rw [h y hy hay]
                simp; omega
              · refine .inr ⟨h0, hw, h1, h2, fun y hy hay hl => ?_⟩
                simp only [Bool.and_eq_false_iff, Bool.not_eq_false', decide_eq_true_eq] at hl
                rcases hl with hl | hl
                · exact h3 y hy hay hl
                · omega
            case measure => rw [Hle.out, Hit.out.left_eq]; exact Hlt.out
end Go.Proofs.YtjgdhlpnpihkdaaDoor
/- A slice of operations that comes in, as our walks take it. -/
namespace Go.Proofs.YtjgdhlpnpihkdaaDoor
open Go.ChangeShapes Go.WideShapes Go.Deep Go.RowKit Dsd

def cellInt (w : World) (a : Addr) : Int := match w.cell? a with
  | some (.int _ n) => n
  | _ => 0
theorem cellInt_of {w : World} {a : Addr} {n : Int} (h : w.cell? a = some (.int .i64 n)) : w.cell? a = some (.int .i64 (cellInt w a)) ∧ cellInt w a = n := by unfold cellInt; rw [h]; exact ⟨rfl, rfl⟩
theorem opTypes : (Tryd.prog.fieldsOf 78).toList.map (fun f => f.type) = [3, 9] := by kernel_rfl
theorem open_ops {H : Type} {enc : TypeId × Value → H} {w : World} {base : Nat} {spare : Nat → Bool} {held : Bool} {t : TypeId} {a : Option Addr} {len cap : Nat} {d : DataW H} {ps : List MemPlace}
    (ht : Tryd.prog.underlying t = some (.slice 78)) (h : DataW.Trod enc Tryd.prog w base spare held t (.slice a len cap) d ps) :
    ∃ L : List (Int × List UInt8), Opsl w a L ∧ L.length = len ∧ len ≤ cap ∧ cap ≤ maxLen ∧ ∀ i, (L.getD i (0, [])).2.length ≤ maxLen ∧ (Lit.int .i64 (L.getD i (0, [])).1).wf = true := by
  obtain ⟨fuel, hf⟩ := h
  have hfs := opTypes
  have hsz : (Tryd.prog.fieldsOf 78).size = 2 := by kernel_rfl
  rcases open_slice_fields ht opDesc (by kernel_rfl) (by kernel_rfl) hf with ⟨hcs, _⟩ | ⟨x, l, c, m, D, Pl, hcs, _, hl, hm, hmm, _, hi⟩
  · simp [Value.cells] at hcs
    obtain ⟨rfl, rfl, rfl⟩ := hcs
    exact ⟨[], .inl rfl, rfl, Nat.le_refl _, by simp, by simp; decide⟩
  · simp [Value.cells] at hcs
    obtain ⟨rfl, rfl, rfl⟩ := hcs
    have hlm : len ≤ m := by rw [hmm]; split <;> omega
    have hcell : ∀ i, i < len → (∃ u, w.cell? (x.add (i * 2)) = some (.int .i64 u) ∧ (Lit.int .i64 u).wf = true) ∧ ∃ s : ByteArray, w.cell? (x.add (i * 2 + 1)) = some (.string s) ∧ s.size ≤ maxLen := by
      intro i hil
      obtain ⟨ys, n, _, _, _, hj⟩ := hi i (by omega)
      rw [hsz] at hj
      generalize Tryd.prog.fieldsOf 78 = fs at *
      have g0 := congrArg (fun l => l[0]?) hfs
      have g1 := congrArg (fun l => l[1]?) hfs
      simp at g0 g1
      obtain ⟨f0, e0, t0⟩ := g0
      obtain ⟨f1, e1, t1⟩ := g1
      obtain ⟨v0, y0, c0, _, h0⟩ := hj 0 f0 e0
      obtain ⟨v1, y1, c1, _, h1⟩ := hj 1 f1 e1
      rw [t0] at h0
      rw [t1] at h1
      obtain ⟨b, hb, _, hwb⟩ := DataW.trod_int Tryd.underlying3 h0
      obtain ⟨s, hs, _, hw⟩ := DataW.trod_string Tryd.underlying9 h1
      simp at hb hs
      subst hb hs
      exact ⟨⟨b, c0, hwb⟩, s, c1, hw⟩
    refine ⟨(List.range len).map fun i => (cellInt w (x.add (i * 2)), cellStr w (x.add (i * 2 + 1))), ?_, by simp, hl, hm, ?_⟩
    · by_cases h0 : len = 0
      · subst h0; exact .inl (by simp)
      · obtain ⟨⟨u, c0, _⟩, _⟩ := hcell 0 (by omega)
        have hx := cell_spot c0
        simp only [Nat.zero_mul, Addr.add, if_true] at hx
        obtain ⟨b, off, sp⟩ := x
        simp only at hx
        obtain ⟨rfl, hb⟩ := hx
        refine .inr ⟨b, off, rfl, hb, fun i hil => ?_⟩
        simp only [List.length_map, List.length_range] at hil
        obtain ⟨⟨u, c0, _⟩, s, c1, _⟩ := hcell i hil
        have k0 := (cellInt_of c0).1
        have k1 := (cellStr_of c1).1
        rw [addr_add] at k0 k1
        simp only [List.getD, List.getElem?_map, List.getElem?_range hil, Option.map_some, Option.getD_some, addr_add]
        exact ⟨k0, by rw [Nat.add_assoc]; exact k1⟩
    · intro i
      by_cases hil : i < len
      · obtain ⟨⟨u, c0, hwu⟩, s, c1, hw⟩ := hcell i hil
        simp only [List.getD, List.getElem?_map, List.getElem?_range hil, Option.map_some, Option.getD_some]
        exact ⟨by rw [(cellStr_of c1).2]; exact hw, by rw [(cellInt_of c0).2]; exact hwu⟩
      · have : ((List.range len).map fun i => (cellInt w (x.add (i * 2)), cellStr w (x.add (i * 2 + 1)))).getD i (0, []) = (0, []) := by
          simp [List.getD, Nat.not_lt.1 hil]
        rw [this]
        exact ⟨by simp, by decide⟩
end Go.Proofs.YtjgdhlpnpihkdaaDoor
/- The statement RelativeOrder: its walk joined to the given row and card. -/
namespace Go.Proofs.YtjgdhlpnpihkdaaDoor.relativeOrder
open Go.ChangeShapes Go.WideShapes Go.ChangeAt Go.RowKit Dsd
open Go.ChangeMaps (open_string shut_string)
set_option maxRecDepth 100000
theorem own : ownKnob Tryd.prog.godebug = none := by kernel_rfl
theorem laidOut : laidOutB Tryd.prog = true := by kernel_rfl

/-- What the walk gives, for every argument and every world. -/
theorem contract (H : Type) (enc : TypeId × Value → H) (W : World) (base : Nat) (args : Array Value) (ds gs : List (DataW H)) (before : List MemPlace)
    (hval : ∀ (j : Nat) t v, Tryd.f10.params[j]? = some t → args[j]? = some v → Value.okWide Tryd.prog W .any base t v)
    (hW : DataW.Whole enc Tryd.prog Tryd.f10.params.toList Rows.relativeOrderSpec.vars false W args.toList ds gs before) :
    Calls Tryd.prog 10 args W fun e W' => ∃ v, e = .returned v ∧ Rows.relativeOrderSpec.post enc Tryd.prog Tryd.f10 false true false false W args v W' := by
  have hW' := hW
  obtain ⟨p, q, hA0, hV, rfl, hfz, hnd⟩ := hW
  have hA : DataW.TrodAll enc Tryd.prog W 0 (fun _ => true) true Tryd.f10.params.toList args.toList ds p := hA0
  rw [Tryd.params10] at hA hval
  obtain ⟨v0, vs0, d0, ds0, p0, q0, hargs, rfl, rfl, h0, r0⟩ := trodAll_cons hA
  obtain ⟨v1, vs1, d1, ds1, p1, q1, rfl, rfl, rfl, h1, r1⟩ := trodAll_cons r0
  obtain ⟨v2, vs2, d2, ds2, p2, q2, rfl, rfl, rfl, h2, r2⟩ := trodAll_cons r1
  obtain ⟨rfl, rfl, rfl⟩ := trodAll_nil r2
  obtain rfl : args = #[v0, v1, v2] := by cases args; simp_all
  obtain ⟨rfl, rfl⟩ := trodVars_none hV
  have k0 := h0
  have lt0 : ∀ x ∈ p0, x.block < W.heap.size := by obtain ⟨m, hm⟩ := k0; exact DataW.trod_lt m _ _ _ hm
  obtain ⟨x0, rfl⟩ := open_ds (hval 0 26 v0 rfl rfl) h0
  obtain ⟨a1, len1, cap1, rfl⟩ := okWide_slice Tryd.underlying74 (hval 1 74 v1 rfl rfl)
  have k1 := h1
  have lt1 : ∀ x ∈ p1, x.block < W.heap.size := by obtain ⟨m, hm⟩ := k1; exact DataW.trod_lt m _ _ _ hm
  obtain ⟨L1, hs1, hl1, hc1, hm1, hw1⟩ := open_ops Tryd.underlying74 h1
  obtain ⟨a2, rfl, rfl, rfl, w2⟩ := open_int Tryd.underlying3 (hval 2 3 v2 rfl rfl) h2
  clear hA0 hval
  have walk := RelativeOrder_any a1 cap1 len1 L1 x0 a2 W hs1 hl1 hc1 hm1 hw1
  refine walk.mono fun e W' ⟨he, bel⟩ => ?_
  subst he
  exact ⟨_, rfl, _, _, _, [], _, [], hW', trodAll_mk1 (shut_bool Tryd.underlying4 _), (trodAll_cons_mk (Below.trod laidOut (by kernel_rfl) (of_decide_eq_true (by kernel_rfl)) k0 bel lt0) (trodAll_cons_mk (Below.trod laidOut (by kernel_rfl) (of_decide_eq_true (by kernel_rfl)) k1 bel lt1) (trodAll_cons_mk (shut_int Tryd.underlying3 w2) trodAll_mk0))), rfl, bel.frame _, fun h => by cases h⟩

/-- The world of the witness: its tables laid. -/
noncomputable def laidWorld (os : Os) : World := World.laidAll Tryd.prog os Rows.relativeOrderRow.laid
theorem laid_met (os : Os) : laidMet Tryd.prog Rows.relativeOrderRow.laid ((laidWorld os).forCall (fun _ _ => 0) ⟨#[], #[.agg #[.int .i64 0, .int .i64 0, .int .i64 0, .int .i64 0, .int .i64 0, .int .i64 0, .int .i64 0, .int .i64 0, .int .i64 0, .int .i64 0, .int .i64 0, .int .i64 0, .int .i64 0, .int .i64 0, .bool false, .int .i64 0, .string ⟨#[]⟩, .string ⟨#[]⟩, .int .i64 0, .int .i64 0, .bool false], .slice none 0 0, .int .i64 0], []⟩).memory :=
  laidMet_laidAll _ (by kernel_rfl) (by kernel_rfl)
theorem reads (os : Os) {H : Type} (enc : TypeId × Value → H) : ∃ places, DataW.whole enc Tryd.prog ((laidWorld os).forCall (fun _ _ => 0) ⟨#[], #[.agg #[.int .i64 0, .int .i64 0, .int .i64 0, .int .i64 0, .int .i64 0, .int .i64 0, .int .i64 0, .int .i64 0, .int .i64 0, .int .i64 0, .int .i64 0, .int .i64 0, .int .i64 0, .int .i64 0, .bool false, .int .i64 0, .string ⟨#[]⟩, .string ⟨#[]⟩, .int .i64 0, .int .i64 0, .bool false], .slice none 0 0, .int .i64 0], []⟩).memory Tryd.f10.params.toList Rows.relativeOrderSpec.vars false (#[.agg #[.int .i64 0, .int .i64 0, .int .i64 0, .int .i64 0, .int .i64 0, .int .i64 0, .int .i64 0, .int .i64 0, .int .i64 0, .int .i64 0, .int .i64 0, .int .i64 0, .int .i64 0, .int .i64 0, .bool false, .int .i64 0, .string ⟨#[]⟩, .string ⟨#[]⟩, .int .i64 0, .int .i64 0, .bool false], .slice none 0 0, .int .i64 0] : Array Value).toList 8 = some ([.agg [.lit (.int .i64 0), .lit (.int .i64 0), .lit (.int .i64 0), .lit (.int .i64 0), .lit (.int .i64 0), .lit (.int .i64 0), .lit (.int .i64 0), .lit (.int .i64 0), .lit (.int .i64 0), .lit (.int .i64 0), .lit (.int .i64 0), .lit (.int .i64 0), .lit (.int .i64 0), .lit (.int .i64 0), .lit (.bool false), .lit (.int .i64 0), .lit (.string []), .lit (.string []), .lit (.int .i64 0), .lit (.int .i64 0), .lit (.bool false)], .nil, .lit (.int .i64 0)], [], places) :=
  ⟨[], by kernel_rfl⟩

theorem lifted (os : Os) (started : os.Started) (H : Type) (enc : TypeId × Value → H) (F : Stop.Interp) :
    ReturnsInHanded {} Tryd.checked os 10 .any ((OpenSpec.ofChange Rows.relativeOrderSpec).preRow enc Tryd.prog Tryd.f10 Rows.relativeOrderRow.domain false Rows.relativeOrderRow.laid) (((OpenSpec.ofChange Rows.relativeOrderSpec).at F).post enc Tryd.prog Tryd.f10 false true false false) := by
  obtain ⟨places, hx⟩ := reads os enc
  refine returnsInHanded_of_row (C := Tryd.checked) (s := OpenSpec.ofChange Rows.relativeOrderSpec) own started (by kernel_rfl) Tryd.func10
    (witness_row_at (enc := enc) (C := Tryd.checked) false (laidWorld os) #[.agg #[.int .i64 0, .int .i64 0, .int .i64 0, .int .i64 0, .int .i64 0, .int .i64 0, .int .i64 0, .int .i64 0, .int .i64 0, .int .i64 0, .int .i64 0, .int .i64 0, .int .i64 0, .int .i64 0, .bool false, .int .i64 0, .string ⟨#[]⟩, .string ⟨#[]⟩, .int .i64 0, .int .i64 0, .bool false], .slice none 0 0, .int .i64 0] (World.laidAll_os _ _ _) (by kernel_rfl) (by kernel_rfl) (by kernel_rfl)
      (OpenSpec.preRow_of_cond 8 hx (by kernel_rfl) (fun k hk => by cases hk) (by kernel_rfl) (laid_met os))) ?_
  intro W base args ds gs before hval hW _ _ hsz hL _ _
  exact contract H enc W base args ds gs before hval hW

theorem said : Rows.RelativeOrderSaid :=
  OpenClaim.holds_of_cond 10 Tryd.f10 rfl rfl rfl rfl rfl rfl rfl ⟨rfl, rfl, rfl, rfl, rfl⟩ rfl rfl rfl rfl rfl (by kernel_rfl) Tryd.func10 (by kernel_rfl)
    (of_decide_eq_true (by kernel_rfl)) (by unfold Func.isWrapper; first | (rw [if_pos (by decide +kernel)]; kernel_rfl) | (rw [if_neg (by decide +kernel)]; exact ⟨rfl, rfl⟩))
    (fun os started H enc _ F => by rw [OpenClaim.pre_eq_preRow]; exact lifted os started H enc F)

theorem plain (f : FuncId) (fn : Func) (hf : Tryd.pinned.checked.prog.funcNamed Tryd.f10.name = some f) (hfn : Tryd.pinned.checked.prog.funcs[f]? = some fn) :
    false = Tryd.pinned.checked.prog.looks [] ∧ ∀ (j : Nat) t, fn.params[j]? = some t → Tryd.pinned.checked.prog.wantsStandIn t = false := by
  obtain rfl : f = 10 := Option.some.inj ((show Tryd.prog.funcNamed Tryd.f10.name = some 10 by kernel_rfl).symm.trans hf) |>.symm
  obtain rfl : fn = Tryd.f10 := (Option.some.inj (Tryd.func10.symm.trans hfn)).symm
  refine ⟨by kernel_rfl, fun j t ht => ?_⟩
  rw [Tryd.params10] at ht
  have hm : t ∈ #[26, 74, 3] := Array.mem_of_getElem? ht
  have hall : (#[26, 74, 3].all fun t => !Tryd.prog.wantsStandIn t) = true := by kernel_rfl
  have := (Array.all_eq_true'.1 hall) t hm
  exact (show Tryd.prog.wantsStandIn t = false by simpa using this)

/-- The statement. -/
theorem card : Rows.RelativeOrderCardSaid :=
  Claim7.holds_tied_plain_at .later [] _ _ _ _ said (fun _ h => by cases h) (by kernel_rfl) (fun _ h => by cases h) relativeOrder_row_tie rfl ⟨rfl, rfl⟩ (by kernel_rfl) rfl plain (by kernel_rfl)
end Go.Proofs.YtjgdhlpnpihkdaaDoor.relativeOrder
