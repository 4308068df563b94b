/- A part of the proof. -/
import Derived.Test.YtifmbcjbccedfaaGreatDoorPA
import GoSem.Op.String
set_option linter.unusedSimpArgs false
set_option linter.unusedVariables false
namespace Dsd
abbrev bl := Go.Op.bytesLess
theorem bl_nil (a : List UInt8) : bl a [] = false := by cases a <;> rfl
theorem bl_cons (a b : UInt8) (x y : List UInt8) : bl (a :: x) (b :: y) = (decide (a < b) || (a == b && bl x y)) := rfl
theorem bl_irrefl : ∀ (a : List UInt8), bl a a = false
 | [] => rfl
 | a :: l => by rw [bl_cons, bl_irrefl l]; simp
theorem bl_trans : ∀ {a b c : List UInt8}, bl a b = true → bl b c = true → bl a c = true
 | _, _, [], _, h => by rw [bl_nil] at h; cases h
 | _, [], _ :: _, h, _ => by rw [bl_nil] at h; cases h
 | [], _ :: _, _ :: _, _, _ => rfl
 | a :: x, b :: y, c :: z, h1, h2 => by
   rw [bl_cons] at h1 h2 ⊢
   simp only [Bool.or_eq_true, decide_eq_true_eq, Bool.and_eq_true, beq_iff_eq] at h1 h2 ⊢
   rcases h1 with h1 | ⟨rfl, h1⟩
   · rcases h2 with h2 | ⟨rfl, h2⟩
     · exact .inl (UInt8.lt_trans h1 h2)
     · exact .inl h1
   · rcases h2 with h2 | ⟨rfl, h2⟩
     · exact .inl h2
     · exact .inr ⟨rfl, bl_trans h1 h2⟩
theorem bl_total : ∀ (a b : List UInt8), bl a b = true ∨ a = b ∨ bl b a = true
 | [], [] => .inr (.inl rfl)
 | [], _ :: _ => .inl rfl
 | _ :: _, [] => .inr (.inr rfl)
 | a :: x, b :: y => by
   rw [bl_cons, bl_cons]
   simp only [Bool.or_eq_true, decide_eq_true_eq, Bool.and_eq_true, beq_iff_eq, List.cons.injEq]
   by_cases h : a = b
   · subst h
     rcases bl_total x y with h | h | h
     · exact .inl (.inr ⟨rfl, h⟩)
     · exact .inr (.inl ⟨rfl, h⟩)
     · exact .inr (.inr (.inr ⟨rfl, h⟩))
   · have h' : a.toNat ≠ b.toNat := fun e => h (UInt8.toNat_inj.1 e)
     rcases Nat.lt_or_gt_of_ne h' with h1 | h1
     · exact .inl (.inl (UInt8.lt_iff_toNat_lt.2 h1))
     · exact .inr (.inr (.inl (UInt8.lt_iff_toNat_lt.2 h1)))
theorem bl_asymm {a b : List UInt8} (h : bl a b = true) : bl b a = false := by
 cases h2 : bl b a with
 | false => rfl
 | true => have := bl_trans h h2; rw [bl_irrefl] at this; cases this
theorem bl_ne {a b : List UInt8} (h : bl a b = true) : a ≠ b := fun e => by subst e; rw [bl_irrefl] at h; cases h
theorem bl_of_not {a b : List UInt8} (h : bl a b = false) (hn : a ≠ b) : bl b a = true := by
 rcases bl_total a b with h1 | h1 | h1
 · rw [h] at h1; cases h1
 · exact absurd h1 hn
 · exact h1
theorem bl_le_trans {a b c : List UInt8} (h1 : bl b a = false) (h2 : bl b c = true) : bl a c = true := by
 rcases bl_total a b with h | h | h
 · exact bl_trans h h2
 · subst h; exact h2
 · rw [h1] at h; cases h
theorem bl_trans_le {a b c : List UInt8} (h1 : bl a b = true) (h2 : bl c b = false) : bl a c = true := by
 rcases bl_total b c with h | h | h
 · exact bl_trans h1 h
 · subst h; exact h1
 · rw [h2] at h; cases h
def frontL : List UInt8 → List UInt8 → Nat
 | a :: x, b :: y => if a = b then frontL x y + 1 else 0
 | _, _ => 0
theorem frontL_nil (b : List UInt8) : frontL [] b = 0 := by cases b <;> rfl
theorem frontL_le : ∀ (a b : List UInt8), frontL a b ≤ a.length ∧ frontL a b ≤ b.length
 | [], b => by rw [frontL_nil]; simp
 | _ :: _, [] => by simp [frontL]
 | a :: x, b :: y => by
   unfold frontL
   split
   · have := frontL_le x y; simp; omega
   · simp
theorem frontL_take : ∀ (a b : List UInt8), a.take (frontL a b) = b.take (frontL a b)
 | [], b => by rw [frontL_nil]; simp
 | _ :: _, [] => by simp [frontL]
 | a :: x, b :: y => by
   unfold frontL
   split
   · rename_i h; subst h; simp [frontL_take x y]
   · simp
def sepL (a b : List UInt8) : List UInt8 := if bl a b = true then b.take (frontL a b + 1) else []
theorem front_lt : ∀ {a b : List UInt8}, bl a b = true → frontL a b < b.length
 | _, [], h => by rw [bl_nil] at h; cases h
 | [], b :: y, _ => by simp [frontL]
 | a :: x, b :: y, h => by
   unfold frontL
   split
   · rename_i e
     subst e
     rw [bl_cons] at h
     simp at h
     have := front_lt h
     simp; omega
   · simp
theorem sep_gt : ∀ {a b : List UInt8}, bl a b = true → bl a (b.take (frontL a b + 1)) = true
 | _, [], h => by rw [bl_nil] at h; cases h
 | [], b :: y, _ => by simp [frontL, bl]; rfl
 | a :: x, b :: y, h => by
   unfold frontL
   split
   · rename_i e
     subst e
     rw [bl_cons] at h
     simp at h
     have := sep_gt h
     rw [List.take_succ_cons, bl_cons, this]
     simp
   · rename_i e
     rw [bl_cons] at h
     simp [e] at h
     rw [List.take_succ_cons, bl_cons]
     simp [h]
theorem bl_take : ∀ (b : List UInt8) (n : Nat), bl b (b.take n) = false
 | [], n => by simp [bl_nil]
 | b :: y, 0 => by simp [bl_nil]
 | b :: y, n + 1 => by rw [List.take_succ_cons, bl_cons, bl_take y n]; simp
theorem sep_spec {a b : List UInt8} (h : bl a b = true) : sepL a b ≠ [] ∧ bl a (sepL a b) = true ∧ bl b (sepL a b) = false ∧ (sepL a b).length ≤ b.length := by
 have h1 := front_lt h
 unfold sepL
 rw [if_pos h]
 refine ⟨fun e => ?_, sep_gt h, bl_take _ _, by simp; omega⟩
 have := congrArg List.length e
 rw [List.length_take] at this
 simp only [List.length_nil] at this
 omega
abbrev Ent := List UInt8 × Int
structure Nd where
 level : Int
 next : Int
 ents : List Ent
deriving DecidableEq
def pageB (n : Int) : Bool := decide (1 ≤ n) && decide (n ≤ 16777216)
def entsB : List UInt8 → List Ent → Bool
 | _, [] => true
 | b, x :: L => pageB x.2 && (x.1.isEmpty == L.isEmpty) && decide (x.1.length ≤ 32) && (L.isEmpty || bl b x.1) && entsB x.1 L
def nodeB (n : Nd) : Bool := decide (1 ≤ n.ents.length) && decide (n.ents.length ≤ 120) && decide (0 ≤ n.level) && decide (n.level ≤ 6) && decide (0 ≤ n.next) && decide (n.next ≤ 16777216) && entsB [] n.ents
def entsN : List UInt8 → List Ent → Nat
 | _, [] => 0
 | b, x :: L => 6 + (x.1.length - frontL b x.1) + entsN x.1 L
def sizeNd (n : Nd) : Nat := if nodeB n then 6 + entsN [] n.ents else 0
def nodeFits (size : Int) (n : Nd) : Bool := isSizeB size && nodeB n && decide ((sizeNd n : Int) ≤ size)
def findGo (key : List UInt8) : List Ent → Option Nat
 | [] => none
 | x :: L => if bl key x.1 = true then some 0 else (findGo key L).map (· + 1)
def findNd (L : List Ent) (key : List UInt8) : Nat := (findGo key L).getD (L.length - 1)
theorem entsN_le : ∀ (L : List Ent) (b : List UInt8) (k : Nat), (∀ x ∈ L, x.1.length ≤ k) → entsN b L ≤ L.length * (6 + k)
 | [], _, _, _ => by simp [entsN]
 | x :: L, b, k, h => by
   have h1 := entsN_le L x.1 k (fun y hy => h y (by simp [hy]))
   have h2 := h x (by simp)
   rw [entsN, List.length_cons, Nat.add_mul]
   omega
theorem entsB_len : ∀ (L : List Ent) (b : List UInt8), entsB b L = true → ∀ x ∈ L, x.1.length ≤ 32 ∧ pageB x.2 = true
 | [], _, _, x, h => by simp at h
 | y :: L, b, h, x, hx => by
   rw [entsB] at h
   simp only [Bool.and_eq_true, decide_eq_true_eq] at h
   rcases List.mem_cons.1 hx with rfl | hx
   · exact ⟨h.1.1.2, h.1.1.1.1⟩
   · exact entsB_len L y.1 h.2 x hx
end Dsd
namespace Dsd
structure Ar where
 base : Int
 nd : Nd
 ivs : List Recs
deriving DecidableEq
def keyedB (d : DS) : Bool := validB d && decide (d.org = 3)
def isBaseB (n : Int) : Bool := decide (1 ≤ n) && decide (n ≤ 16777208)
def recB (d : DS) (s : List UInt8) : Bool := decide (d.keyAt + d.keyLength ≤ s.length) && decide ((s.length : Int) ≤ d.length)
def keyD (d : DS) (s : List UInt8) : List UInt8 := (s.drop d.keyAt.toNat).take d.keyLength.toNat
def pagesB (base area : Int) : List Int → List Ent → Bool
 | _, [] => true
 | used, x :: L => !(used.contains x.2) && decide (base < x.2) && decide (x.2 ≤ base + area) && pagesB base area (x.2 :: used) L
def shapedB (d : DS) (base : Int) (n : Nd) : Bool := isBaseB base && nodeFits d.interval n && decide (n.level = 0) && decide ((n.ents.length : Int) ≤ d.area) && pagesB base d.area [] n.ents
def aboveB (pk : Option (List UInt8)) (k : List UInt8) : Bool := match pk with
 | none => true
 | some p => bl p k
def recsB (d : DS) (low below : List UInt8) : Option (List UInt8) → Recs → Bool
 | _, [] => true
 | pk, s :: L => recB d s && !bl (keyD d s) low && (below.isEmpty || bl (keyD d s) below) && aboveB pk (keyD d s) && recsB d low below (some (keyD d s)) L
def ivsB (d : DS) (many : Bool) : List UInt8 → List Recs → List Ent → Bool
 | _, [], [] => true
 | low, L :: R, x :: E => !(L.isEmpty && many) && fitsB d.interval L && recsB d low x.1 none L && ivsB d many x.1 R E
 | _, _, _ => false
def areaB (d : DS) (a : Ar) : Bool := keyedB d && shapedB d a.base a.nd && decide (a.ivs.length = a.nd.ents.length) && ivsB d (decide (1 < a.ivs.length)) [] a.ivs a.nd.ents
def recsOf (a : Ar) : Recs := a.ivs.flatten
def putL (d : DS) (r : List UInt8) : Recs → Recs
 | [] => [r]
 | s :: L => if bl (keyD d s) (keyD d r) = true then s :: putL d r L else if keyD d s = keyD d r then r :: L else r :: s :: L
def delL (d : DS) (k : List UInt8) : Recs → Recs
 | [] => []
 | s :: L => if keyD d s = k then L else s :: delL d k L
def incB (d : DS) : Option (List UInt8) → Recs → Bool
 | _, [] => true
 | pk, s :: L => aboveB pk (keyD d s) && incB d (some (keyD d s)) L
theorem keyed_spec {d : DS} (h : keyedB d = true) : validB d = true ∧ d.org = 3 ∧ d.length ≤ d.interval / 2 - 8 ∧ 0 ≤ d.keyAt ∧ 1 ≤ d.keyLength ∧ d.keyLength ≤ d.interval / 16 ∧ d.keyAt + d.keyLength ≤ d.length ∧ 2 ≤ d.area ∧ d.area ≤ 8 := by
 unfold keyedB at h
 simp only [Bool.and_eq_true, decide_eq_true_eq] at h
 have h2 := h.1
 unfold validB validK at h2
 simp [h.2] at h2
 refine ⟨h.1, h.2, ?_⟩
 omega
theorem recB_spec {d : DS} {s : List UInt8} (h : recB d s = true) : d.keyAt + d.keyLength ≤ s.length ∧ (s.length : Int) ≤ d.length := by
 unfold recB at h
 simpa using h
theorem keyD_len {d : DS} {s : List UInt8} (hd : keyedB d = true) (h : recB d s = true) : ((keyD d s).length : Int) = d.keyLength := by
 have h1 := keyed_spec hd
 have h2 := recB_spec h
 unfold keyD
 rw [List.length_take, List.length_drop]
 omega
def two2 (n : Nat) : Recs → Bool
 | y :: z :: _ => y.length == n && z.length == n
 | _ => false
def fcR : Recs → Nat
 | [] => 0
 | x :: L => fcR L + if two2 x.length L then 0 else 3
theorem runs_head : ∀ (L : Recs), (L = [] ∧ runsL L = []) ∨ ∃ n len r, runsL L = (n, len) :: r ∧ 1 ≤ n ∧ ∀ k, (two2 k L = true ↔ len = k ∧ 2 ≤ n)
 | [] => .inl ⟨rfl, rfl⟩
 | x :: L => .inr (by
   rw [runsL]
   rcases runs_head L with ⟨rfl, h⟩ | ⟨n, len, r, h, hn, ht⟩
   · rw [h]
     exact ⟨1, x.length, [], rfl, by omega, fun k => by simp [two2]⟩
   · rw [h]
     have hL : ∃ y L', L = y :: L' := by
       cases L with
       | nil => rw [runsL] at h; cases h
       | cons y L' => exact ⟨y, L', rfl⟩
     obtain ⟨y, L', rfl⟩ := hL
     have hy : len = y.length := by
       rw [runsL] at h
       split at h
       · injection h with h _; injection h with _ h; exact h.symm
       · split at h
         · rename_i e; injection h with h _; injection h with _ h; rw [← h, e]
         · injection h with h _; injection h with _ h; exact h.symm
     simp only
     split
     · rename_i e
       refine ⟨n + 1, len, r, rfl, by omega, fun k => ?_⟩
       simp only [two2, Bool.and_eq_true, beq_iff_eq]
       omega
     · rename_i e
       refine ⟨1, x.length, _, rfl, by omega, fun k => ?_⟩
       simp only [two2, Bool.and_eq_true, beq_iff_eq]
       omega)
theorem fields_fc : ∀ (L : Recs), (fieldsL L).length = fcR L
 | [] => rfl
 | x :: L => by
   have ih := fields_fc L
   rw [fields_len] at ih ⊢
   rw [fcR, ← ih, runsL]
   rcases runs_head L with ⟨rfl, h⟩ | ⟨n, len, r, h, hn, ht⟩
   · rw [h]; simp [fcount, two2]
   · rw [h]
     have h2 := ht x.length
     simp only
     split
     · rename_i e
       by_cases h3 : 2 ≤ n
       · rw [if_pos (h2.2 ⟨e, h3⟩)]
         simp [fcount]; omega
       · rw [if_neg (fun h4 => h3 (h2.1 h4).2)]
         simp [fcount]; omega
     · rename_i e
       rw [if_neg (fun h4 => e (h2.1 h4).1)]
       simp [fcount]; omega
theorem sumLen_app (A B : Recs) : sumLen (A ++ B) = sumLen A + sumLen B := by simp [sumLen]
theorem two2_app {n : Nat} {A : Recs} (B : Recs) (h : two2 n A = true) : two2 n (A ++ B) = true := by
 match A, h with
 | y :: z :: L, h => exact h
theorem two2_long {n : Nat} {A : Recs} (B : Recs) (h : 2 ≤ A.length) : two2 n (A ++ B) = two2 n A := by
 match A, h with
 | y :: z :: L, _ => rfl
theorem fc_app_le : ∀ (A B : Recs), fcR (A ++ B) ≤ fcR A + fcR B
 | [], B => by simp [fcR]
 | x :: A, B => by
   have ih := fc_app_le A B
   simp only [List.cons_append, fcR]
   by_cases h : two2 x.length A = true
   · rw [if_pos h, if_pos (two2_app B h)]; omega
   · rw [if_neg h]; split <;> omega
theorem fc_app_ge : ∀ (A B : Recs), fcR A + fcR B ≤ fcR (A ++ B) + 3 * min A.length 2
 | [], B => by simp [fcR]
 | x :: A, B => by
   have ih := fc_app_ge A B
   simp only [List.cons_append, fcR, List.length_cons]
   by_cases hl : 2 ≤ A.length
   · rw [two2_long B hl]; omega
   · have : two2 x.length A = false := by
       match A, hl with
       | [], _ => rfl
       | [_], _ => rfl
       | _ :: _ :: _, h => simp at h
     rw [this]
     simp only [Bool.false_eq_true, if_false]
     split <;> omega
theorem sizeL_fc (L : Recs) : sizeL L = 4 + fcR L + sumLen L := by unfold sizeL; rw [fields_fc]
theorem size_app_le (A B : Recs) : sizeL (A ++ B) + 4 ≤ sizeL A + sizeL B := by
 rw [sizeL_fc, sizeL_fc, sizeL_fc, sumLen_app]
 have := fc_app_le A B
 omega
theorem size_app_ge (A B : Recs) : sizeL A + sizeL B ≤ sizeL (A ++ B) + 10 := by
 rw [sizeL_fc, sizeL_fc, sizeL_fc, sumLen_app]
 have := fc_app_ge A B
 omega
theorem size_one (r : List UInt8) : sizeL [r] = 7 + r.length := by rw [sizeL_fc]; simp [fcR, two2, sumLen]
theorem middle_is {size : Int} {A B : Recs} {r : List UInt8} (hs : isSizeB size = true) (hl : allowedB (A ++ r :: B) = true) (hr : (r.length : Int) ≤ size / 2 - 8) (h : (sizeL A + sizeL B : Int) ≤ size + 10) (hA0 : (sizeL A : Int) ≤ size) (hB0 : (sizeL B : Int) ≤ size) (hn : fitsB size (A ++ r :: B) = false) :
   ∃ m, 1 ≤ m ∧ m < (A ++ r :: B).length ∧ fitsB size ((A ++ r :: B).take m) = true ∧ fitsB size ((A ++ r :: B).drop m) = true := by
 obtain ⟨n, rfl, hsz⟩ := isSize_nat hs
 have hallA : allowedB A = true ∧ okLen r = true ∧ allowedB B = true := by
   unfold allowedB at *
   simpa using hl
 have h1 := size_one r
 have hA4 : 4 ≤ sizeL A := by rw [sizeL_fc]; omega
 have hB4 : 4 ≤ sizeL B := by rw [sizeL_fc]; omega
 have fit : ∀ L : Recs, allowedB L = true → sizeL L ≤ n → fitsB n L = true := fun L h1 h2 => by
   unfold fitsB
   rw [hs, h1]
   simp; omega
 have allw : ∀ X Y : Recs, allowedB X = true → allowedB Y = true → allowedB (X ++ Y) = true := fun X Y h1 h2 => by unfold allowedB at *; rw [List.all_append, h1, h2]; rfl
 have hone : allowedB [r] = true := by unfold allowedB; simp [hallA.2.1]
 by_cases hle : sizeL A ≤ sizeL B
 · have h2 := size_app_le A [r]
   have hB : B ≠ [] := fun e => by
     subst e
     have : A = [] := by
       cases A with
       | nil => rfl
       | cons x A => rw [sizeL_fc, sizeL_fc] at hle; simp [fcR, sumLen] at hle; have := hallA.1; simp [allowedB, okLen] at this; omega
     subst this
     rw [List.nil_append, fit [r] (by simpa using hl) (by rw [h1]; omega)] at hn
     cases hn
   have hlB := List.length_pos_iff.2 hB
   refine ⟨A.length + 1, by omega, by simp; omega, ?_, ?_⟩
   · have e : (A ++ r :: B).take (A.length + 1) = A ++ [r] := by simp [List.take_append, List.take_of_length_le]
     rw [e]
     exact fit _ (allw A [r] hallA.1 hone) (by omega)
   · have e : (A ++ r :: B).drop (A.length + 1) = B := by simp [List.drop_append]
     rw [e]
     exact fit _ hallA.2.2 (by omega)
 · have h2 := size_app_le [r] B
   have hA : A ≠ [] := fun e => by subst e; rw [sizeL_fc] at hle; simp [fcR, sumLen] at hle; omega
   have hlA := List.length_pos_iff.2 hA
   refine ⟨A.length, by omega, by simp, ?_, ?_⟩
   · rw [List.take_left]
     exact fit _ hallA.1 (by omega)
   · rw [List.drop_left]
     exact fit _ (allw [r] B hone hallA.2.2) (by simp at h2 ⊢; omega)
end Dsd
namespace Dsd
def Inc (d : DS) (L : Recs) : Prop := L.Pairwise fun x y => bl (keyD d x) (keyD d y) = true
theorem incB_iff (d : DS) : ∀ (L : Recs) (pk : Option (List UInt8)), incB d pk L = true ↔ (∀ p, pk = some p → ∀ s ∈ L, bl p (keyD d s) = true) ∧ Inc d L
 | [], pk => by simp [incB, Inc]
 | s :: L, pk => by
   rw [incB, Bool.and_eq_true, incB_iff d L]
   unfold Inc
   rw [List.pairwise_cons]
   constructor
   · rintro ⟨h1, h2, h3⟩
     refine ⟨fun p hp t ht => ?_, h2 _ rfl, h3⟩
     subst hp
     rcases List.mem_cons.1 ht with rfl | ht
     · exact h1
     · exact bl_trans h1 (h2 _ rfl t ht)
   · rintro ⟨h1, h2, h3⟩
     refine ⟨?_, fun p hp t ht => ?_, h3⟩
     · cases pk with
       | none => rfl
       | some p => exact h1 p rfl s (by simp)
     · injection hp with hp; subst hp; exact h2 t ht
def InIv (d : DS) (low below : List UInt8) (s : List UInt8) : Prop := recB d s = true ∧ bl (keyD d s) low = false ∧ (below = [] ∨ bl (keyD d s) below = true)
theorem recsB_iff (d : DS) (low below : List UInt8) : ∀ (L : Recs) (pk : Option (List UInt8)), recsB d low below pk L = true ↔ (∀ s ∈ L, InIv d low below s) ∧ incB d pk L = true
 | [], pk => by simp [recsB, incB]
 | s :: L, pk => by
   rw [recsB, incB]
   simp only [Bool.and_eq_true, recsB_iff d low below L, List.mem_cons, forall_eq_or_imp, InIv]
   simp only [Bool.not_eq_true', Bool.or_eq_true, List.isEmpty_iff]
   constructor
   · rintro ⟨⟨⟨⟨h1, h2⟩, h3⟩, h4⟩, h5, h6⟩; exact ⟨⟨⟨h1, h2, h3⟩, h5⟩, h4, h6⟩
   · rintro ⟨⟨⟨h1, h2, h3⟩, h5⟩, h4, h6⟩; exact ⟨⟨⟨⟨h1, h2⟩, h3⟩, h4⟩, h5, h6⟩
theorem recsB_none {d : DS} {low below : List UInt8} {L : Recs} : recsB d low below none L = true ↔ (∀ s ∈ L, InIv d low below s) ∧ Inc d L := by
 rw [recsB_iff, incB_iff]; simp
theorem putL_mem {d : DS} {r s : List UInt8} : ∀ {L : Recs}, s ∈ putL d r L → s = r ∨ s ∈ L
 | [], h => by simp [putL] at h; exact .inl h
 | t :: L, h => by
   rw [putL] at h
   split at h
   · rcases List.mem_cons.1 h with rfl | h
     · exact .inr (by simp)
     · rcases putL_mem h with h | h
       · exact .inl h
       · exact .inr (by simp [h])
   · split at h
     · rcases List.mem_cons.1 h with rfl | h
       · exact .inl rfl
       · exact .inr (by simp [h])
     · rcases List.mem_cons.1 h with rfl | h
       · exact .inl rfl
       · exact .inr h
theorem putL_inc {d : DS} {r : List UInt8} : ∀ {L : Recs}, Inc d L → Inc d (putL d r L)
 | [], _ => by simp [putL, Inc]
 | t :: L, h => by
   unfold Inc at h
   rw [List.pairwise_cons] at h
   rw [putL]
   split
   · rename_i h1
     refine List.pairwise_cons.2 ⟨fun s hs => ?_, putL_inc h.2⟩
     rcases putL_mem hs with rfl | hs
     · exact h1
     · exact h.1 s hs
   · rename_i h1
     split
     · rename_i h2
       exact List.pairwise_cons.2 ⟨fun s hs => by rw [← h2]; exact h.1 s hs, h.2⟩
     · rename_i h2
       have h3 : bl (keyD d r) (keyD d t) = true := bl_of_not (by simpa using h1) h2
       refine List.pairwise_cons.2 ⟨fun s hs => ?_, List.pairwise_cons.2 h⟩
       rcases List.mem_cons.1 hs with rfl | hs
       · exact h3
       · exact bl_trans h3 (h.1 s hs)
theorem putL_lt {d : DS} {r : List UInt8} {B : Recs} : ∀ {A : Recs}, (∀ s ∈ A, bl (keyD d s) (keyD d r) = true) → putL d r (A ++ B) = A ++ putL d r B
 | [], _ => rfl
 | s :: A, h => by
   rw [List.cons_append, putL, if_pos (h s (by simp)), putL_lt (fun t ht => h t (by simp [ht]))]
   rfl
theorem putL_gt {d : DS} {r : List UInt8} {B : Recs} (hB : ∀ s ∈ B, bl (keyD d r) (keyD d s) = true) : ∀ {A : Recs}, putL d r (A ++ B) = putL d r A ++ B
 | [] => by
   cases B with
   | nil => rfl
   | cons s B =>
     have h := hB s (by simp)
     rw [List.nil_append, show putL d r (s :: B) = (if bl (keyD d s) (keyD d r) = true then s :: putL d r B else if keyD d s = keyD d r then r :: B else r :: s :: B) from rfl, if_neg (by rw [bl_asymm h]; simp), if_neg (fun e => bl_ne h e.symm)]
     rfl
 | s :: A => by
   rw [List.cons_append, putL, putL]
   split
   · rw [putL_gt hB]; rfl
   · split <;> rfl
theorem delL_lt {d : DS} {k : List UInt8} {B : Recs} : ∀ {A : Recs}, (∀ s ∈ A, keyD d s ≠ k) → delL d k (A ++ B) = A ++ delL d k B
 | [], _ => rfl
 | s :: A, h => by
   rw [List.cons_append, delL, if_neg (h s (by simp)), delL_lt (fun t ht => h t (by simp [ht]))]
   rfl
theorem delL_gt {d : DS} {k : List UInt8} {B : Recs} : ∀ {A : Recs}, (∃ s ∈ A, keyD d s = k) → delL d k (A ++ B) = delL d k A ++ B
 | [], h => by simp at h
 | s :: A, h => by
   rw [List.cons_append, delL, delL]
   split
   · rfl
   · rename_i h1
     rw [delL_gt (by
       obtain ⟨t, ht, h2⟩ := h
       rcases List.mem_cons.1 ht with rfl | ht
       · exact absurd h2 h1
       · exact ⟨t, ht, h2⟩)]
     rfl
theorem delL_sub (d : DS) (k : List UInt8) : ∀ (L : Recs), (delL d k L).Sublist L
 | [] => List.Sublist.slnil
 | s :: L => by
   rw [delL]
   split
   · exact List.sublist_cons_self _ _
   · exact (delL_sub d k L).cons_cons s
theorem delL_inc {d : DS} {k : List UInt8} {L : Recs} (h : Inc d L) : Inc d (delL d k L) := List.Pairwise.sublist (delL_sub d k L) h
theorem delL_len {d : DS} {k : List UInt8} : ∀ {L : Recs}, (∃ s ∈ L, keyD d s = k) → (delL d k L).length + 1 = L.length
 | [], h => by simp at h
 | s :: L, h => by
   rw [delL]
   split
   · simp
   · rename_i h1
     have := delL_len (d := d) (k := k) (L := L) (by
       obtain ⟨t, ht, h2⟩ := h
       rcases List.mem_cons.1 ht with rfl | ht
       · exact absurd h2 h1
       · exact ⟨t, ht, h2⟩)
     simp; omega
def wantA (d : DS) (R : Recs) (k : List UInt8) : Option (List UInt8) := R.find? fun s => keyD d s == k
theorem wantA_some {d : DS} {R : Recs} (hR : Inc d R) {k s : List UInt8} : wantA d R k = some s ↔ s ∈ R ∧ keyD d s = k := by
 unfold wantA
 constructor
 · intro h
   have h1 := List.find?_some h
   exact ⟨List.mem_of_find?_eq_some h, by simpa using h1⟩
 · rintro ⟨h1, h2⟩
   cases h : R.find? fun s => keyD d s == k with
   | none => rw [List.find?_eq_none] at h; exact absurd h2 (by simpa using h s h1)
   | some t =>
     have h3 := List.find?_some h
     have h4 := List.mem_of_find?_eq_some h
     simp at h3
     by_cases e : t = s
     · rw [e]
     · exfalso
       unfold Inc at hR
       rcases List.mem_iff_getElem.1 h1 with ⟨i, hi, rfl⟩
       rcases List.mem_iff_getElem.1 h4 with ⟨j, hj, rfl⟩
       rcases Nat.lt_trichotomy i j with hij | hij | hij
       · have := List.pairwise_iff_getElem.1 hR i j hi hj hij
         rw [h2, h3, bl_irrefl] at this; cases this
       · subst hij; exact e rfl
       · have := List.pairwise_iff_getElem.1 hR j i hj hi hij
         rw [h2, h3, bl_irrefl] at this; cases this
theorem putL_in {d : DS} {r : List UInt8} : ∀ (L : Recs), r ∈ putL d r L
 | [] => by simp [putL]
 | s :: L => by
   rw [putL]
   split
   · exact List.mem_cons_of_mem _ (putL_in L)
   · split <;> simp
theorem putL_keep {d : DS} {r s : List UInt8} (hn : keyD d s ≠ keyD d r) : ∀ {L : Recs}, s ∈ L → s ∈ putL d r L
 | [], h => by simp at h
 | t :: L, h => by
   rw [putL]
   split
   · rcases List.mem_cons.1 h with rfl | h
     · simp
     · exact List.mem_cons_of_mem _ (putL_keep hn h)
   · split
     · rename_i h1
       rcases List.mem_cons.1 h with rfl | h
       · exact absurd h1 hn
       · simp [h]
     · exact List.mem_cons_of_mem _ h
theorem wantA_put {d : DS} {R : Recs} (hR : Inc d R) (r k : List UInt8) : wantA d (putL d r R) k = if k = keyD d r then some r else wantA d R k := by
 have hP := putL_inc (r := r) hR
 by_cases hk : k = keyD d r
 · rw [if_pos hk]
   exact (wantA_some hP).2 ⟨putL_in R, hk.symm⟩
 · rw [if_neg hk]
   cases h : wantA d R k with
   | some s =>
     obtain ⟨h1, h2⟩ := (wantA_some hR).1 h
     exact (wantA_some hP).2 ⟨putL_keep (by rw [h2]; exact hk) h1, h2⟩
   | none =>
     cases h2 : wantA d (putL d r R) k with
     | none => rfl
     | some s =>
       obtain ⟨h3, h4⟩ := (wantA_some hP).1 h2
       rcases putL_mem h3 with rfl | h3
       · exact absurd h4.symm hk
       · rw [(wantA_some hR).2 ⟨h3, h4⟩] at h; cases h
theorem wantA_none {d : DS} {R : Recs} {k : List UInt8} : wantA d R k = none ↔ ∀ s ∈ R, keyD d s ≠ k := by
 unfold wantA; rw [List.find?_eq_none]; simp
theorem putL_len {d : DS} {r : List UInt8} : ∀ {R : Recs}, Inc d R → (putL d r R).length = if (wantA d R (keyD d r)).isSome then R.length else R.length + 1
 | [], _ => by simp [putL, wantA]
 | s :: L, h => by
   unfold Inc at h
   rw [List.pairwise_cons] at h
   have e : wantA d (s :: L) (keyD d r) = if keyD d s = keyD d r then some s else wantA d L (keyD d r) := by
     unfold wantA
     rw [List.find?_cons]
     by_cases e : keyD d s = keyD d r
     · simp [e]
     · have : (keyD d s == keyD d r) = false := by simpa using e
       rw [this, if_neg e]
   rw [putL, e]
   split
   · rename_i h1
     rw [if_neg (bl_ne h1), List.length_cons, putL_len h.2, List.length_cons]
     split <;> rfl
   · rename_i h1
     split
     · simp
     · rename_i h2
       have h3 : bl (keyD d r) (keyD d s) = true := bl_of_not (by simpa using h1) h2
       have : wantA d L (keyD d r) = none := wantA_none.2 fun t ht e => by
         have h4 := bl_trans h3 (h.1 t ht)
         rw [e, bl_irrefl] at h4; cases h4
       rw [this]
       simp
theorem wantA_del {d : DS} {R : Recs} (hR : Inc d R) (k0 k : List UInt8) : wantA d (delL d k0 R) k = if k = k0 then none else wantA d R k := by
 induction R with
 | nil => simp [delL, wantA]
 | cons s L ih =>
   unfold Inc at hR
   rw [List.pairwise_cons] at hR
   have ih := ih hR.2
   have e : ∀ M : Recs, wantA d (s :: M) k = if keyD d s = k then some s else wantA d M k := fun M => by
     unfold wantA
     rw [List.find?_cons]
     by_cases e : keyD d s = k
     · simp [e]
     · have : (keyD d s == k) = false := by simpa using e
       rw [this, if_neg e]
   rw [delL]
   split
   · rename_i h1
     rw [e]
     by_cases hk : k = k0
     · rw [if_pos hk]
       exact wantA_none.2 fun t ht e => by
         have h4 := hR.1 t ht
         rw [e, h1, hk, bl_irrefl] at h4; cases h4
     · rw [if_neg hk, if_neg (fun e => hk (by rw [← e, h1]))]
   · rename_i h1
     rw [e, e, ih]
     by_cases hk : k = k0
     · rw [if_pos hk, if_pos hk, if_neg (by rw [hk]; exact h1)]
     · rw [if_neg hk, if_neg hk]
end Dsd
namespace Dsd
theorem find_cons (x : Ent) (E : List Ent) (k : List UInt8) : findNd (x :: E) k = if bl k x.1 = true then 0 else if E = [] then 0 else findNd E k + 1 := by
 unfold findNd
 rw [findGo]
 by_cases h : bl k x.1 = true
 · rw [if_pos h, if_pos h]; rfl
 · rw [if_neg h, if_neg h]
   cases hg : findGo k E with
   | some j => 
     have : E ≠ [] := fun e => by subst e; simp [findGo] at hg
     rw [if_neg this]; simp
   | none =>
     by_cases he : E = []
     · subst he; simp
     · have := List.length_pos_iff.2 he
       rw [if_neg he]; simp; omega
theorem ents_cons {b : List UInt8} {x : Ent} {E : List Ent} (h : entsB b (x :: E) = true) : pageB x.2 = true ∧ (x.1 = [] ↔ E = []) ∧ x.1.length ≤ 32 ∧ (E ≠ [] → bl b x.1 = true) ∧ entsB x.1 E = true := by
 rw [entsB] at h
 simp only [Bool.and_eq_true, beq_iff_eq, decide_eq_true_eq, Bool.or_eq_true, List.isEmpty_iff] at h
 obtain ⟨⟨⟨⟨h1, h2⟩, h3⟩, h4⟩, h5⟩ := h
 refine ⟨h1, ?_, h3, fun hn => h4.resolve_left hn, h5⟩
 rw [← List.isEmpty_iff, ← List.isEmpty_iff, h2]
theorem ents_mk {b : List UInt8} {x : Ent} {E : List Ent} (h1 : pageB x.2 = true) (h2 : x.1 = [] ↔ E = []) (h3 : x.1.length ≤ 32) (h4 : E ≠ [] → bl b x.1 = true) (h5 : entsB x.1 E = true) : entsB b (x :: E) = true := by
 rw [entsB]
 simp only [Bool.and_eq_true, beq_iff_eq, decide_eq_true_eq, Bool.or_eq_true, List.isEmpty_iff]
 refine ⟨⟨⟨⟨h1, ?_⟩, h3⟩, ?_⟩, h5⟩
 · rw [Bool.eq_iff_iff, List.isEmpty_iff, List.isEmpty_iff]; exact h2
 · by_cases h : E = []
   · exact .inl h
   · exact .inr (h4 h)
theorem ivs_cons {d : DS} {many : Bool} {low : List UInt8} {L : Recs} {R : List Recs} {x : Ent} {E : List Ent} : ivsB d many low (L :: R) (x :: E) = true ↔ (L = [] → many = false) ∧ fitsB d.interval L = true ∧ ((∀ s ∈ L, InIv d low x.1 s) ∧ Inc d L) ∧ ivsB d many x.1 R E = true := by
 rw [ivsB, ← recsB_none]
 simp only [Bool.and_eq_true]
 constructor
 · rintro ⟨⟨⟨h1, h2⟩, h3⟩, h4⟩
   exact ⟨fun e => by subst e; simpa using h1, h2, h3, h4⟩
 · rintro ⟨h1, h2, h3, h4⟩
   refine ⟨⟨⟨?_, h2⟩, h3⟩, h4⟩
   by_cases e : L = []
   · rw [h1 e]; simp
   · have : L.isEmpty = false := by simpa using e
     rw [this]; rfl
theorem ivs_len {d : DS} {many : Bool} : ∀ {V : List Recs} {E : List Ent} {low : List UInt8}, ivsB d many low V E = true → V.length = E.length
 | [], [], _, _ => rfl
 | L :: R, x :: E, low, h => by
   have := ivs_len (ivs_cons.1 h).2.2.2
   simp [this]
 | [], _ :: _, _, h => by simp [ivsB] at h
 | _ :: _, [], _, h => by simp [ivsB] at h
theorem ivs_low {d : DS} {many : Bool} : ∀ {V : List Recs} {E : List Ent} {low : List UInt8}, entsB low E = true → ivsB d many low V E = true → ∀ s ∈ V.flatten, bl (keyD d s) low = false
 | [], [], _, _, _, s, h => by simp at h
 | L :: R, x :: E, low, he, h, s, hs => by
   obtain ⟨e1, e2, e3, e4, e5⟩ := ents_cons he
   obtain ⟨h1, h2, ⟨h3, _⟩, h4⟩ := ivs_cons.1 h
   rw [List.flatten_cons, List.mem_append] at hs
   rcases hs with hs | hs
   · exact (h3 s hs).2.1
   · have h5 := ivs_low e5 h4 s hs
     by_cases hE : E = []
     · subst hE
       have := ivs_len h4
       simp at this
       subst this
       simp at hs
     · have h6 := e4 hE
       cases h7 : bl (keyD d s) low with
       | false => rfl
       | true =>
         have := bl_trans h7 h6
         rw [h5] at this; cases this
 | [], _ :: _, _, _, h, _, _ => by simp [ivsB] at h
 | _ :: _, [], _, _, h, _, _ => by simp [ivsB] at h
theorem ivs_mem {d : DS} {many : Bool} : ∀ {V : List Recs} {E : List Ent} {low : List UInt8}, ivsB d many low V E = true → ∀ L ∈ V, fitsB d.interval L = true ∧ (∀ s ∈ L, recB d s = true) ∧ Inc d L ∧ (L = [] → many = false)
 | [], [], _, _, L, h => by simp at h
 | L :: R, x :: E, low, h, M, hM => by
   obtain ⟨h1, h2, ⟨h3, h5⟩, h4⟩ := ivs_cons.1 h
   rcases List.mem_cons.1 hM with rfl | hM
   · exact ⟨h2, fun s hs => (h3 s hs).1, h5, h1⟩
   · exact ivs_mem h4 M hM
 | [], _ :: _, _, h, _, _ => by simp [ivsB] at h
 | _ :: _, [], _, h, _, _ => by simp [ivsB] at h
theorem ivs_many {d : DS} : ∀ {V : List Recs} {E : List Ent} {low : List UInt8} {m m' : Bool}, (m' = true → m = true ∨ ∀ L ∈ V, L ≠ []) → ivsB d m low V E = true → ivsB d m' low V E = true
 | [], [], _, _, _, _, _ => rfl
 | L :: R, x :: E, low, m, m', hm, h => by
   obtain ⟨h1, h2, h3, h4⟩ := ivs_cons.1 h
   refine ivs_cons.2 ⟨fun e => ?_, h2, h3, ivs_many (fun e => ?_) h4⟩
   · cases hm' : m' with
     | false => rfl
     | true =>
       rcases hm hm' with h5 | h5
       · rw [h1 e] at h5; cases h5
       · exact absurd e (h5 L (by simp))
   · rcases hm e with h5 | h5
     · exact .inl h5
     · exact .inr fun M hM => h5 M (by simp [hM])
 | [], _ :: _, _, _, _, _, h => by simp [ivsB] at h
 | _ :: _, [], _, _, _, _, h => by simp [ivsB] at h
theorem ivs_inc {d : DS} {many : Bool} : ∀ {V : List Recs} {E : List Ent} {low : List UInt8}, entsB low E = true → ivsB d many low V E = true → Inc d V.flatten
 | [], [], _, _, _ => by simp [Inc]
 | L :: R, x :: E, low, he, h => by
   obtain ⟨e1, e2, e3, e4, e5⟩ := ents_cons he
   obtain ⟨h1, h2, ⟨h3, h6⟩, h4⟩ := ivs_cons.1 h
   unfold Inc
   rw [List.flatten_cons, List.pairwise_append]
   refine ⟨h6, ivs_inc e5 h4, fun s hs t ht => ?_⟩
   have h7 := ivs_low e5 h4 t ht
   rcases (h3 s hs).2.2 with h8 | h8
   · have := e2.1 h8
     subst this
     have := ivs_len h4
     simp at this
     subst this
     simp at ht
   · exact bl_trans_le h8 h7
 | [], _ :: _, _, _, h => by simp [ivsB] at h
 | _ :: _, [], _, _, h => by simp [ivsB] at h
structure AtIv (d : DS) (many : Bool) (low : List UInt8) (V : List Recs) (E : List Ent) (k : List UInt8) (i : Nat) : Prop where
 lt : i < V.length
 below : ∀ s ∈ (V.take i).flatten, bl (keyD d s) k = true
 above : ∀ s ∈ (V.drop (i + 1)).flatten, bl k (keyD d s) = true
theorem at_iv {d : DS} {many : Bool} {k : List UInt8} : ∀ {V : List Recs} {E : List Ent} {low : List UInt8}, entsB low E = true → ivsB d many low V E = true → E ≠ [] → AtIv d many low V E k (findNd E k)
 | L :: R, x :: E, low, he, h, _ => by
   obtain ⟨e1, e2, e3, e4, e5⟩ := ents_cons he
   obtain ⟨h1, h2, ⟨h3, h6⟩, h4⟩ := ivs_cons.1 h
   rw [find_cons]
   split
   · rename_i hk
     exact ⟨by simp, by simp, fun s hs => bl_trans_le hk (ivs_low e5 h4 s (by simpa using hs))⟩
   · rename_i hk
     split
     · rename_i hE
       subst hE
       have := ivs_len h4
       simp at this
       subst this
       exact ⟨by simp, by simp, by simp⟩
     · rename_i hE
       have ih := at_iv (k := k) e5 h4 hE
       refine ⟨by have := ih.lt; simp; omega, fun s hs => ?_, fun s hs => ih.above s (by simpa using hs)⟩
       rw [List.take_succ_cons, List.flatten_cons, List.mem_append] at hs
       rcases hs with hs | hs
       · rcases (h3 s hs).2.2 with h8 | h8
         · exact absurd (e2.1 h8) hE
         · exact bl_trans_le h8 (by simpa using hk)
       · exact ih.below s hs
 | [], [], _, _, _, h => absurd rfl h
 | [], _ :: _, _, _, h, _ => by simp [ivsB] at h
 | _ :: _, [], _, _, h, _ => by simp [ivsB] at h
theorem flat_set {V : List Recs} {i : Nat} (h : i < V.length) (L : Recs) : (V.set i L).flatten = (V.take i).flatten ++ L ++ (V.drop (i + 1)).flatten := by
 rw [List.set_eq_take_append_cons_drop, if_pos h]
 simp
theorem flat_get {V : List Recs} {i : Nat} (h : i < V.length) : V.flatten = (V.take i).flatten ++ V.getD i [] ++ (V.drop (i + 1)).flatten := by
 have e : V.set i (V.getD i []) = V := by simp [List.getD, h]
 conv => lhs; rw [← e]
 exact flat_set h _
theorem AtIv.put {d : DS} {many : Bool} {low r : List UInt8} {V : List Recs} {E : List Ent} {i : Nat} (a : AtIv d many low V E (keyD d r) i) : (V.set i (putL d r (V.getD i []))).flatten = putL d r V.flatten := by
 rw [flat_set a.lt]
 conv => rhs; rw [flat_get a.lt, List.append_assoc]
 rw [putL_lt a.below, putL_gt a.above, List.append_assoc]
theorem AtIv.del {d : DS} {many : Bool} {low k : List UInt8} {V : List Recs} {E : List Ent} {i : Nat} (a : AtIv d many low V E k i) (h : ∃ s ∈ V.getD i [], keyD d s = k) : (V.set i (delL d k (V.getD i []))).flatten = delL d k V.flatten := by
 rw [flat_set a.lt]
 conv => rhs; rw [flat_get a.lt, List.append_assoc]
 rw [delL_lt (fun s hs => bl_ne (a.below s hs)), delL_gt h, List.append_assoc]
theorem AtIv.has {d : DS} {many : Bool} {low k : List UInt8} {V : List Recs} {E : List Ent} {i : Nat} (a : AtIv d many low V E k i) : wantA d V.flatten k = wantA d (V.getD i []) k := by
 conv => lhs; rw [flat_get a.lt]
 unfold wantA
 rw [List.append_assoc, List.find?_append, List.find?_append]
 have h1 : (V.take i).flatten.find? (fun s => keyD d s == k) = none := by
   rw [List.find?_eq_none]; intro s hs; simpa using bl_ne (a.below s hs)
 have h2 : (V.drop (i + 1)).flatten.find? (fun s => keyD d s == k) = none := by
   rw [List.find?_eq_none]; intro s hs; simpa using (bl_ne (a.above s hs)).symm
 rw [h1, h2]
 simp
theorem ivs_set {d : DS} {many : Bool} : ∀ {V : List Recs} {E : List Ent} {low : List UInt8} {i : Nat} {M : Recs}, ivsB d many low V E = true → i < V.length → fitsB d.interval M = true → (M = [] → many = false) → Inc d M → (∀ s ∈ M, s ∈ V.getD i [] ∨ (recB d s = true ∧ bl (keyD d s) low = false ∧ i = findNd E (keyD d s) ∧ entsB low E = true)) → ivsB d many low (V.set i M) E = true
 | L :: R, x :: E, low, 0, M, h, _, h1, h2, h3, h4 => by
   obtain ⟨g1, g2, ⟨g3, g6⟩, g4⟩ := ivs_cons.1 h
   refine ivs_cons.2 ⟨h2, h1, ⟨fun s hs => ?_, h3⟩, g4⟩
   rcases h4 s hs with h5 | ⟨h5, h6, h7, h8⟩
   · exact g3 s (by simpa using h5)
   · refine ⟨h5, h6, ?_⟩
     obtain ⟨e1, e2, e3, e4, e5⟩ := ents_cons h8
     rw [find_cons] at h7
     split at h7
     · rename_i hk; exact .inr hk
     · split at h7
       · rename_i hE; exact .inl (e2.2 hE)
       · omega
 | L :: R, x :: E, low, i + 1, M, h, hi, h1, h2, h3, h4 => by
   obtain ⟨g1, g2, g3, g4⟩ := ivs_cons.1 h
   refine ivs_cons.2 ⟨g1, g2, g3, ivs_set g4 (by simpa using hi) h1 h2 h3 fun s hs => ?_⟩
   rcases h4 s hs with h5 | ⟨h5, h6, h7, h8⟩
   · exact .inl (by simpa using h5)
   · obtain ⟨e1, e2, e3, e4, e5⟩ := ents_cons h8
     rw [find_cons] at h7
     split at h7
     · omega
     · rename_i hk
       split at h7
       · omega
       · exact .inr ⟨h5, by simpa using hk, by omega, e5⟩
 | [], _, _, _, _, _, h, _, _, _, _ => by simp at h
 | _ :: _, [], _, _, _, h, _, _, _, _, _ => by simp [ivsB] at h
end Dsd
namespace Dsd
def entAt (E : List Ent) (i : Nat) : Ent := E.getD i ([], 0)
def splE (E : List Ent) (i : Nat) (bound : List UInt8) (pg : Int) : List Ent := E.take i ++ (bound, (entAt E i).2) :: ((entAt E i).1, pg) :: E.drop (i + 1)
def splV (V : List Recs) (i : Nat) (A B : Recs) : List Recs := V.take i ++ A :: B :: V.drop (i + 1)
theorem splE_zero (x : Ent) (E : List Ent) (bound : List UInt8) (pg : Int) : splE (x :: E) 0 bound pg = (bound, x.2) :: (x.1, pg) :: E := rfl
theorem splE_succ (x : Ent) (E : List Ent) (i : Nat) (bound : List UInt8) (pg : Int) : splE (x :: E) (i + 1) bound pg = x :: splE E i bound pg := by simp [splE, entAt]
theorem splV_zero (L : Recs) (V : List Recs) (A B : Recs) : splV (L :: V) 0 A B = A :: B :: V := rfl
theorem splV_succ (L : Recs) (V : List Recs) (i : Nat) (A B : Recs) : splV (L :: V) (i + 1) A B = L :: splV V i A B := rfl
theorem splE_ne (E : List Ent) (i : Nat) (bound : List UInt8) (pg : Int) : splE E i bound pg ≠ [] := by simp [splE]
theorem splE_len {E : List Ent} {i : Nat} (h : i < E.length) (bound : List UInt8) (pg : Int) : (splE E i bound pg).length = E.length + 1 := by simp [splE]; omega
theorem splV_len {V : List Recs} {i : Nat} (h : i < V.length) (A B : Recs) : (splV V i A B).length = V.length + 1 := by simp [splV]; omega
theorem splV_flat {V : List Recs} {i : Nat} (h : i < V.length) (A B : Recs) : (splV V i A B).flatten = (V.set i (A ++ B)).flatten := by rw [flat_set h]; simp [splV]
theorem ivs_split {d : DS} {many : Bool} {A B : Recs} {bound : List UInt8} {pg : Int} (hA : A ≠ []) (hB : B ≠ []) (fA : fitsB d.interval A = true) (fB : fitsB d.interval B = true) (hi : Inc d (A ++ B)) (hp : pageB pg = true)
   (bA : ∀ s ∈ A, bl (keyD d s) bound = true) (bB : ∀ s ∈ B, bl (keyD d s) bound = false) (b0 : bound ≠ []) (b32 : bound.length ≤ 32) :
   ∀ {V : List Recs} {E : List Ent} {low : List UInt8} {i : Nat}, entsB low E = true → ivsB d many low V E = true → i < V.length → (many = true ∨ V.length = 1) →
     (∀ s ∈ A ++ B, s ∈ V.getD i [] ∨ (recB d s = true ∧ bl (keyD d s) low = false ∧ i = findNd E (keyD d s))) →
     entsB low (splE E i bound pg) = true ∧ ivsB d true low (splV V i A B) (splE E i bound pg) = true
 | L :: R, x :: E, low, 0, he, h, _, hm, hr => by
   obtain ⟨e1, e2, e3, e4, e5⟩ := ents_cons he
   obtain ⟨g1, g2, ⟨g3, g6⟩, g4⟩ := ivs_cons.1 h
   have hin : ∀ s ∈ A ++ B, InIv d low x.1 s := fun s hs => by
     rcases hr s hs with h5 | ⟨h5, h6, h7⟩
     · exact g3 s (by simpa using h5)
     · refine ⟨h5, h6, ?_⟩
       rw [find_cons] at h7
       split at h7
       · rename_i hk; exact .inr hk
       · split at h7
         · rename_i hE; exact .inl (e2.2 hE)
         · omega
   unfold Inc at hi
   rw [List.pairwise_append] at hi
   obtain ⟨s0, hs0⟩ := List.exists_mem_of_ne_nil A hA
   obtain ⟨t0, ht0⟩ := List.exists_mem_of_ne_nil B hB
   have hlb : bl low bound = true := bl_le_trans (hin s0 (by simp [hs0])).2.1 (bA s0 hs0)
   have hbx : x.1 ≠ [] → bl bound x.1 = true := fun hx => by
     rcases (hin t0 (by simp [ht0])).2.2 with h1 | h1
     · exact absurd h1 hx
     · exact bl_le_trans (bB t0 ht0) h1
   rw [splE_zero, splV_zero]
   constructor
   · refine ents_mk e1 (by simp [b0]) b32 (fun _ => hlb) (ents_mk hp e2 e3 (fun hn => hbx (fun e => hn (e2.1 e))) e5)
   · refine ivs_cons.2 ⟨fun e => absurd e hA, fA, ⟨fun s hs => ⟨(hin s (by simp [hs])).1, (hin s (by simp [hs])).2.1, .inr (bA s hs)⟩, hi.1⟩, ivs_cons.2 ⟨fun e => absurd e hB, fB, ⟨fun s hs => ⟨(hin s (by simp [hs])).1, bB s hs, (hin s (by simp [hs])).2.2⟩, hi.2.1⟩, ?_⟩⟩
     refine ivs_many (fun _ => ?_) g4
     rcases hm with hm | hm
     · exact .inl hm
     · simp at hm; subst hm; exact .inr (by simp)
 | L :: R, x :: E, low, i + 1, he, h, hl, hm, hr => by
   obtain ⟨e1, e2, e3, e4, e5⟩ := ents_cons he
   obtain ⟨g1, g2, g3, g4⟩ := ivs_cons.1 h
   have hmt : many = true := by
     rcases hm with hm | hm
     · exact hm
     · simp at hm hl; subst hm; simp at hl
   have hE : E ≠ [] := fun e => by
     subst e
     have := ivs_len g4
     simp at this hl
     subst this
     simp at hl
   have ih := ivs_split (many := many) hA hB fA fB hi hp bA bB b0 b32 (V := R) (E := E) (low := x.1) (i := i) e5 g4 (by simpa using hl) (.inl hmt) (fun s hs => by
     rcases hr s hs with h5 | ⟨h5, h6, h7⟩
     · exact .inl (by simpa using h5)
     · rw [find_cons, if_neg hE] at h7
       split at h7
       · omega
       · rename_i hk
         exact .inr ⟨h5, by simpa using hk, by omega⟩)
   rw [splE_succ, splV_succ]
   refine ⟨ents_mk e1 ⟨fun e => absurd (e2.1 e) hE, fun e => absurd e (splE_ne _ _ _ _)⟩ e3 (fun _ => e4 hE) ih.1, ivs_cons.2 ⟨fun e => ?_, g2, g3, ih.2⟩⟩
   rw [g1 e] at hmt; cases hmt
 | [], _, _, _, _, _, h, _, _ => by simp at h
 | _ :: _, [], _, _, _, h, _, _, _ => by simp [ivsB] at h
theorem ents_step : ∀ {E : List Ent} {b : List UInt8} {i : Nat}, entsB b E = true → i + 2 < E.length → bl (entAt E i).1 (entAt E (i + 1)).1 = true
 | x :: y :: E, b, 0, h, hl => by
   have h1 := (ents_cons h).2.2.2.2
   have h2 := (ents_cons h1).2.2.2.1 (by intro e; subst e; simp at hl)
   simpa [entAt] using h2
 | x :: E, b, i + 1, h, hl => by
   have := ents_step (i := i) (ents_cons h).2.2.2.2 (by simp only [List.length_cons] at hl; omega)
   simpa [entAt] using this
 | [x], _, 0, _, hl => by simp at hl
 | [], _, _, _, hl => by simp at hl
theorem ents_last : ∀ {E : List Ent} {b : List UInt8} {i : Nat}, entsB b E = true → i < E.length → ((entAt E i).1 = [] ↔ i + 1 = E.length)
 | x :: E, b, 0, h, _ => by
   have h1 := (ents_cons h).2.1
   have : (entAt (x :: E) 0) = x := rfl
   rw [this, h1, List.length_cons]
   constructor
   · rintro rfl; rfl
   · intro h; exact List.eq_nil_of_length_eq_zero (by omega)
 | x :: E, b, i + 1, h, hl => by
   have := ents_last (i := i) (ents_cons h).2.2.2.2 (by simpa using hl)
   have e : entAt (x :: E) (i + 1) = entAt E i := by simp [entAt]
   rw [e, this, List.length_cons]; omega
 | [], _, _, _, hl => by simp at hl
theorem pagesB_iff {base area : Int} : ∀ {L : List Ent} {used : List Int}, pagesB base area used L = true ↔ (∀ x ∈ L, x.2 ∉ used ∧ base < x.2 ∧ x.2 ≤ base + area) ∧ (L.map (·.2)).Nodup
 | [], used => by simp [pagesB]
 | x :: L, used => by
   rw [pagesB]
   simp only [Bool.and_eq_true, pagesB_iff (L := L), Bool.not_eq_true', decide_eq_true_eq, List.map_cons, List.nodup_cons, List.mem_cons, forall_eq_or_imp]
   simp only [List.contains_eq_mem, decide_eq_false_iff_not]
   constructor
   · rintro ⟨⟨⟨h1, h2⟩, h3⟩, h4, h5⟩
     refine ⟨⟨⟨h1, h2, h3⟩, fun y hy => ⟨fun hu => (h4 y hy).1 (.inr hu), (h4 y hy).2⟩⟩, fun hm => ?_, h5⟩
     obtain ⟨y, hy, e⟩ := List.mem_map.1 hm
     exact (h4 y hy).1 (.inl e)
   · rintro ⟨⟨⟨h1, h2, h3⟩, h4⟩, h5, h6⟩
     refine ⟨⟨⟨h1, h2⟩, h3⟩, fun y hy => ⟨fun hu => ?_, (h4 y hy).2⟩, h6⟩
     rcases hu with hu | hu
     · exact h5 (List.mem_map.2 ⟨y, hy, hu⟩)
     · exact (h4 y hy).1 hu
def Nd.zero : Nd := ⟨0, 0, []⟩
def Ar.zero : Ar := ⟨0, Nd.zero, []⟩
def insertNd (n : Nd) (i : Int) (below : List UInt8) (page : Int) : Nd × Int :=
 if nodeB n = false ∨ pageB page = false ∨ i < 0 ∨ (n.ents.length : Int) ≤ i then (Nd.zero, 1)
 else if below = [] ∨ 32 < below.length ∨ (0 < i ∧ bl (entAt n.ents (i.toNat - 1)).1 below = false) ∨ ((entAt n.ents i.toNat).1 ≠ [] ∧ bl below (entAt n.ents i.toNat).1 = false) then (Nd.zero, 2)
 else if n.ents.length = 120 then (Nd.zero, 8) else ({ n with ents := splE n.ents i.toNat below page }, 0)
end Dsd
namespace Dsd
structure ASpec (d : DS) (a : Ar) : Prop where
 keyed : keyedB d = true
 base : isBaseB a.base = true
 size : isSizeB d.interval = true
 node : nodeB a.nd = true
 fits : (sizeNd a.nd : Int) ≤ d.interval
 level : a.nd.level = 0
 few : (a.nd.ents.length : Int) ≤ d.area
 pages : pagesB a.base d.area [] a.nd.ents = true
 len : a.ivs.length = a.nd.ents.length
 ivs : ivsB d (decide (1 < a.ivs.length)) [] a.ivs a.nd.ents = true
theorem area_iff {d : DS} {a : Ar} : areaB d a = true ↔ ASpec d a := by
 unfold areaB shapedB nodeFits
 simp only [Bool.and_eq_true, decide_eq_true_eq]
 constructor
 · rintro ⟨⟨⟨h1, ⟨⟨⟨h2, ⟨h3, h4⟩, h5⟩, h6⟩, h7⟩, h8⟩, h9⟩, h10⟩
   exact ⟨h1, h2, h3, h4, h5, h6, h7, h8, h9, h10⟩
 · rintro ⟨h1, h2, h3, h4, h5, h6, h7, h8, h9, h10⟩
   exact ⟨⟨⟨h1, ⟨⟨⟨h2, ⟨h3, h4⟩, h5⟩, h6⟩, h7⟩, h8⟩, h9⟩, h10⟩
structure NSpec (n : Nd) : Prop where
 l1 : 1 ≤ n.ents.length
 l2 : n.ents.length ≤ 120
 v1 : 0 ≤ n.level
 v2 : n.level ≤ 6
 x1 : 0 ≤ n.next
 x2 : n.next ≤ 16777216
 ents : entsB [] n.ents = true
theorem node_iff {n : Nd} : nodeB n = true ↔ NSpec n := by
 unfold nodeB
 simp only [Bool.and_eq_true, decide_eq_true_eq]
 constructor
 · rintro ⟨⟨⟨⟨⟨⟨h1, h2⟩, h3⟩, h4⟩, h5⟩, h6⟩, h7⟩
   exact ⟨h1, h2, h3, h4, h5, h6, h7⟩
 · rintro ⟨h1, h2, h3, h4, h5, h6, h7⟩
   exact ⟨⟨⟨⟨⟨⟨h1, h2⟩, h3⟩, h4⟩, h5⟩, h6⟩, h7⟩
structure AInv (d : DS) (a : Ar) : Prop where
 spec : ASpec d a
 short : ∀ x ∈ a.nd.ents, (x.1.length : Int) ≤ d.keyLength
theorem ASpec.ne {d : DS} {a : Ar} (s : ASpec d a) : a.nd.ents ≠ [] := List.length_pos_iff.1 (by have := (node_iff.1 s.node).l1; omega)
theorem ASpec.ents {d : DS} {a : Ar} (s : ASpec d a) : entsB [] a.nd.ents = true := (node_iff.1 s.node).ents
theorem ASpec.inc {d : DS} {a : Ar} (s : ASpec d a) : Inc d (recsOf a) := ivs_inc s.ents s.ivs
theorem ASpec.at {d : DS} {a : Ar} (s : ASpec d a) (k : List UInt8) : AtIv d (decide (1 < a.ivs.length)) [] a.ivs a.nd.ents k (findNd a.nd.ents k) := at_iv s.ents s.ivs s.ne
theorem ASpec.mem {d : DS} {a : Ar} (s : ASpec d a) {i : Nat} (h : i < a.ivs.length) : fitsB d.interval (a.ivs.getD i []) = true ∧ (∀ t ∈ a.ivs.getD i [], recB d t = true) ∧ Inc d (a.ivs.getD i []) ∧ (a.ivs.getD i [] = [] → a.ivs.length = 1) := by
 have hm : a.ivs.getD i [] ∈ a.ivs := by rw [List.getD, List.getElem?_eq_getElem h]; exact List.getElem_mem h
 obtain ⟨h1, h2, h3, h4⟩ := ivs_mem s.ivs _ hm
 refine ⟨h1, h2, h3, fun e => ?_⟩
 have := h4 e
 simp at this
 omega
theorem isSize_le {n : Int} (h : isSizeB n = true) : 128 ≤ n ∧ n ≤ 512 ∧ n / 16 ≤ 32 ∧ 54 + n / 2 ≤ n := by
 obtain ⟨k, rfl, hk⟩ := isSize_nat h
 omega
theorem short_fits {d : DS} (hd : keyedB d = true) {n : Nd} (hn : nodeB n = true) (hl : (n.ents.length : Int) ≤ d.area) (hs : ∀ x ∈ n.ents, (x.1.length : Int) ≤ d.keyLength) : (sizeNd n : Int) ≤ d.interval := by
 obtain ⟨h1, h2, h3, h4, h5, h6, h7, h8, h9⟩ := keyed_spec hd
 have hz := isSize_le (valid_spec h1).2.2.1
 have h10 := entsN_le n.ents [] d.keyLength.toNat (fun x hx => by have := hs x hx; omega)
 have h11 : n.ents.length * (6 + d.keyLength.toNat) ≤ 8 * (6 + d.keyLength.toNat) := Nat.mul_le_mul_right _ (by omega)
 unfold sizeNd
 rw [if_pos hn]
 omega
theorem rec_len {d : DS} (hd : keyedB d = true) {r : List UInt8} (h : recB d r = true) : okLen r = true ∧ (r.length : Int) ≤ d.interval / 2 - 8 := by
 obtain ⟨h1, h2, h3, h4, h5, h6, h7, h8, h9⟩ := keyed_spec hd
 have h10 := (valid_spec h1).2.2.2.2.1
 have h11 := recB_spec h
 unfold okLen
 simp; omega
theorem put_fits {d : DS} {a : Ar} {r : List UInt8} (I : AInv d a) (hr : recB d r = true) (hf : fitsB d.interval (putL d r (a.ivs.getD (findNd a.nd.ents (keyD d r)) [])) = true) :
   AInv d { a with ivs := a.ivs.set (findNd a.nd.ents (keyD d r)) (putL d r (a.ivs.getD (findNd a.nd.ents (keyD d r)) [])) } ∧
     recsOf { a with ivs := a.ivs.set (findNd a.nd.ents (keyD d r)) (putL d r (a.ivs.getD (findNd a.nd.ents (keyD d r)) [])) } = putL d r (recsOf a) := by
 have s := I.spec
 have hat := s.at (keyD d r)
 have hm := s.mem hat.lt
 refine ⟨⟨⟨s.keyed, s.base, s.size, s.node, s.fits, s.level, s.few, s.pages, by simp [s.len], ?_⟩, I.short⟩, hat.put⟩
 simp only [List.length_set]
 refine ivs_set s.ivs hat.lt hf (fun e => ?_) (putL_inc hm.2.2.1) fun t ht => ?_
 · have := putL_in (d := d) (r := r) (a.ivs.getD (findNd a.nd.ents (keyD d r)) [])
   rw [e] at this; simp at this
 · rcases putL_mem ht with rfl | ht
   · exact .inr ⟨hr, bl_nil _, rfl, s.ents⟩
   · exact .inl ht
theorem putL_parts {d : DS} {r : List UInt8} : ∀ (L : Recs), ∃ A B, putL d r L = A ++ r :: B ∧ (L = A ++ B ∨ ∃ o, L = A ++ o :: B)
 | [] => ⟨[], [], rfl, .inl rfl⟩
 | s :: L => by
   rw [putL]
   split
   · obtain ⟨A, B, h1, h2⟩ := putL_parts (d := d) (r := r) L
     refine ⟨s :: A, B, by rw [h1]; rfl, ?_⟩
     rcases h2 with h2 | ⟨o, h2⟩
     · exact .inl (by rw [h2]; rfl)
     · exact .inr ⟨o, by rw [h2]; rfl⟩
   · split
     · exact ⟨[], L, rfl, .inr ⟨s, rfl⟩⟩
     · exact ⟨[], s :: L, rfl, .inl rfl⟩
theorem fits_spec {size : Int} {L : Recs} (h : fitsB size L = true) : isSizeB size = true ∧ allowedB L = true ∧ (sizeL L : Int) ≤ size := by
 unfold fitsB at h
 simpa [and_assoc] using h
theorem size_pre : ∀ (L A : Recs), sizeL A ≤ sizeL (A ++ L)
 | [], A => by simp
 | z :: L, A => by
   have h1 := size_init z A
   have h2 := size_pre L (A ++ [z])
   rw [List.append_assoc] at h2
   simp only [List.singleton_append] at h2
   omega
theorem size_suf : ∀ (A L : Recs), sizeL L ≤ sizeL (A ++ L)
 | [], L => Nat.le_refl _
 | x :: A, L => by
   have h1 := size_suf A L
   have h2 := size_tail x (A ++ L)
   simp only [List.cons_append]
   omega
theorem size_mid (A B : Recs) (o : List UInt8) : sizeL A + sizeL B ≤ sizeL (A ++ o :: B) + 10 ∧ sizeL A ≤ sizeL (A ++ o :: B) ∧ sizeL B ≤ sizeL (A ++ o :: B) := by
 have h1 := size_app_ge A (o :: B)
 have h2 := size_tail o B
 have h3 := size_suf A (o :: B)
 exact ⟨by omega, size_pre _ _, by omega⟩
theorem allowed_all {L : Recs} : allowedB L = true ↔ ∀ s ∈ L, okLen s = true := by unfold allowedB; simp
theorem nodup_nat {base : Int} : ∀ (k : Nat) (L : List Int), L.Nodup → (∀ y ∈ L, base < y ∧ y ≤ base + k) → L.length ≤ k
 | 0, L, _, hr => by
   cases L with
   | nil => simp
   | cons y L => have := hr y (by simp); omega
 | k + 1, L, hn, hr => by
   by_cases h : base + (k + 1) ∈ L
   · have h1 := nodup_nat (base := base) k (L.erase (base + (k + 1))) (hn.erase _) (fun y hy => by
       obtain ⟨h1, h2⟩ := hn.mem_erase_iff.1 hy
       have := hr y h2
       push_cast at this
       omega)
     rw [List.length_erase_of_mem h] at h1
     omega
   · have := nodup_nat (base := base) k L hn (fun y hy => by
       have h1 := hr y hy
       have h2 : y ≠ base + (k + 1) := fun e => h (e ▸ hy)
       push_cast at h1
       omega)
     omega
theorem nodup_range {base : Int} {L : List Int} {n : Int} (hn : L.Nodup) (hr : ∀ y ∈ L, base < y ∧ y ≤ base + n) : (L.length : Int) ≤ max 0 n := by
 have := nodup_nat (base := base) n.toNat L hn (fun y hy => by have := hr y hy; omega)
 omega
theorem entAt_left {X Y : List Ent} {j : Nat} (h : j < X.length) : entAt (X ++ Y) j = entAt X j := by unfold entAt; simp [List.getD, List.getElem?_append_left h]
theorem entAt_right {X Y : List Ent} {j : Nat} (h : X.length ≤ j) : entAt (X ++ Y) j = entAt Y (j - X.length) := by unfold entAt; simp [List.getD, List.getElem?_append_right h]
theorem put_middle {d : DS} {r : List UInt8} {L : Recs} (hd : keyedB d = true) (hr : recB d r = true) (hL : fitsB d.interval L = true) (hn : fitsB d.interval (putL d r L) = false) :
   ∃ m, 1 ≤ m ∧ m < (putL d r L).length ∧ fitsB d.interval ((putL d r L).take m) = true ∧ fitsB d.interval ((putL d r L).drop m) = true := by
 obtain ⟨h1, h2⟩ := rec_len hd hr
 obtain ⟨f1, f2, f3⟩ := fits_spec hL
 obtain ⟨A, B, e1, e2⟩ := putL_parts (d := d) (r := r) L
 have hal : allowedB (putL d r L) = true := allowed_all.2 fun s hs => by
   rcases putL_mem hs with rfl | hs
   · exact h1
   · exact allowed_all.1 f2 s hs
 rw [e1] at hal hn ⊢
 have hsz : sizeL A + sizeL B ≤ sizeL L + 10 ∧ sizeL A ≤ sizeL L ∧ sizeL B ≤ sizeL L := by
   rcases e2 with rfl | ⟨o, rfl⟩
   · exact ⟨size_app_ge A B, size_pre _ _, size_suf _ _⟩
   · exact size_mid A B o
 exact middle_is f1 hal h2 (by omega) (by omega) (by omega) hn
theorem put_split {d : DS} {a : Ar} {r : List UInt8} {m : Nat} {pg : Int} (I : AInv d a) (hr : recB d r = true) {i : Nat} (hi : i = findNd a.nd.ents (keyD d r)) {l : Recs} (hl : l = putL d r (a.ivs.getD i []))
   (m1 : 1 ≤ m) (m2 : m < l.length) (fA : fitsB d.interval (l.take m) = true) (fB : fitsB d.interval (l.drop m) = true) {bound : List UInt8} (hb : bound = sepL (keyD d (l.getD (m - 1) [])) (keyD d (l.getD m [])))
   (p1 : a.base < pg) (p2 : pg ≤ a.base + d.area) (p3 : ∀ x ∈ a.nd.ents, x.2 ≠ pg) :
   insertNd a.nd (i : Int) bound pg = ({ a.nd with ents := splE a.nd.ents i bound pg }, 0) ∧
   AInv d { a with nd := { a.nd with ents := splE a.nd.ents i bound pg }, ivs := splV a.ivs i (l.take m) (l.drop m) } ∧
     recsOf { a with nd := { a.nd with ents := splE a.nd.ents i bound pg }, ivs := splV a.ivs i (l.take m) (l.drop m) } = putL d r (recsOf a) := by
 have s := I.spec
 have hat := s.at (keyD d r)
 rw [← hi] at hat
 obtain ⟨g1, g2, g3, g4⟩ := s.mem hat.lt
 have k9 := keyed_spec s.keyed
 have hinc : Inc d l := by rw [hl]; exact putL_inc g3
 have hrec : ∀ t ∈ l, recB d t = true := fun t ht => by
   rw [hl] at ht
   rcases putL_mem ht with rfl | ht
   · exact hr
   · exact g2 t ht
 have e1 : l.getD (m - 1) [] = l[m - 1]'(by omega) := by simp [List.getD, List.getElem?_eq_getElem (show m - 1 < l.length by omega)]
 have e2 : l.getD m [] = l[m]'m2 := by simp [List.getD, List.getElem?_eq_getElem m2]
 have hlt : bl (keyD d (l[m - 1]'(by omega))) (keyD d (l[m]'m2)) = true := List.pairwise_iff_getElem.1 hinc _ _ _ _ (by omega)
 rw [e1, e2] at hb
 obtain ⟨b1, b2, b3, b4⟩ := sep_spec hlt
 rw [← hb] at b1 b2 b3 b4
 have hkl := keyD_len s.keyed (hrec _ (List.getElem_mem m2))
 have bkl : (bound.length : Int) ≤ d.keyLength := by omega
 have hz := isSize_le s.size
 have bA : ∀ t ∈ l.take m, bl (keyD d t) bound = true := fun t ht => by
   obtain ⟨j, hj, rfl⟩ := List.mem_iff_getElem.1 ht
   rw [List.length_take] at hj
   rw [List.getElem_take]
   by_cases hjm : j = m - 1
   · subst hjm; exact b2
   · exact bl_trans (List.pairwise_iff_getElem.1 hinc j (m - 1) (by omega) (by omega) (by omega)) b2
 have bB : ∀ t ∈ l.drop m, bl (keyD d t) bound = false := fun t ht => by
   obtain ⟨j, hj, rfl⟩ := List.mem_iff_getElem.1 ht
   rw [List.length_drop] at hj
   rw [List.getElem_drop]
   by_cases hjm : j = 0
   · subst hjm; simpa using b3
   · cases h : bl (keyD d (l[m + j]'(by omega))) bound with
     | false => rfl
     | true =>
       have h5 := bl_trans (List.pairwise_iff_getElem.1 hinc m (m + j) m2 (by omega) (by omega)) h
       rw [b3] at h5; cases h5
 have hpg : pageB pg = true := by
   have := s.base
   unfold isBaseB at this
   unfold pageB
   simp at this ⊢
   omega
 have hilt : i < a.nd.ents.length := by rw [← s.len]; exact hat.lt
 have hmny : decide (1 < a.ivs.length) = true ∨ a.ivs.length = 1 := by
   have := hat.lt
   by_cases h : 1 < a.ivs.length
   · exact .inl (by simpa using h)
   · exact .inr (by omega)
 have b32 : bound.length ≤ 32 := by omega
 have hneA : l.take m ≠ [] := fun e => by
   have := congrArg List.length e
   rw [List.length_take] at this
   simp only [List.length_nil] at this
   omega
 have hneB : l.drop m ≠ [] := fun e => by
   have := congrArg List.length e
   rw [List.length_drop] at this
   simp only [List.length_nil] at this
   omega
 obtain ⟨q1, q2⟩ := ivs_split (many := decide (1 < a.ivs.length)) (bound := bound) (pg := pg) (A := l.take m) (B := l.drop m) hneA hneB fA fB (by rw [List.take_append_drop]; exact hinc) hpg bA bB b1 b32
   s.ents s.ivs hat.lt hmny (fun t ht => by
     rw [List.take_append_drop, hl] at ht
     rcases putL_mem ht with rfl | ht
     · exact .inr ⟨hr, bl_nil _, hi⟩
     · exact .inl ht)
 have hns := node_iff.1 s.node
 have hl1 := splE_len hilt bound pg
 have hl2 := splV_len hat.lt (l.take m) (l.drop m)
 -- the pages
 obtain ⟨n1, n2⟩ := pagesB_iff.1 s.pages
 have hperm : (splE a.nd.ents i bound pg).map (·.2) = (a.nd.ents.take (i + 1)).map (·.2) ++ pg :: (a.nd.ents.drop (i + 1)).map (·.2) := by
   unfold splE
   rw [List.take_succ_eq_append_getElem hilt]
   have : entAt a.nd.ents i = a.nd.ents[i] := by simp [entAt, List.getD, hilt]
   rw [this]
   simp only [List.map_append, List.map_cons, List.map_nil, List.append_assoc, List.singleton_append]
 have hpn : pg ∉ a.nd.ents.map (·.2) := fun h => by
   obtain ⟨x, hx, e⟩ := List.mem_map.1 h
   exact p3 x hx e
 have hfewer : (a.nd.ents.length : Int) < d.area := by
   -- the pages with pg are in the area, each once
   have hnd : (pg :: a.nd.ents.map (·.2)).Nodup := List.nodup_cons.2 ⟨hpn, n2⟩
   have hall : ∀ y ∈ pg :: a.nd.ents.map (·.2), a.base < y ∧ y ≤ a.base + d.area := fun y hy => by
     rcases List.mem_cons.1 hy with rfl | hy
     · exact ⟨p1, p2⟩
     · obtain ⟨x, hx, rfl⟩ := List.mem_map.1 hy
       exact (n1 x hx).2
   have := nodup_range hnd hall
   simp at this
   omega
 have hnode : nodeB { a.nd with ents := splE a.nd.ents i bound pg } = true := node_iff.2 ⟨by simp only; omega, by simp only; omega, hns.v1, hns.v2, hns.x1, hns.x2, q1⟩
 have hshort : ∀ x ∈ splE a.nd.ents i bound pg, (x.1.length : Int) ≤ d.keyLength := fun x hx => by
   unfold splE at hx
   have hent : entAt a.nd.ents i ∈ a.nd.ents := by
     have : entAt a.nd.ents i = a.nd.ents[i] := by simp [entAt, List.getD, hilt]
     rw [this]; exact List.getElem_mem hilt
   rcases List.mem_append.1 hx with hx | hx
   · exact I.short x (List.mem_of_mem_take hx)
   · rcases List.mem_cons.1 hx with rfl | hx
     · exact bkl
     · rcases List.mem_cons.1 hx with rfl | hx
       · show ((entAt a.nd.ents i).1.length : Int) ≤ _
         exact I.short _ hent
       · exact I.short x (List.mem_of_mem_drop hx)
 refine ⟨?_, ⟨⟨s.keyed, s.base, s.size, hnode, ?_, s.level, ?_, ?_, ?_, ?_⟩, hshort⟩, ?_⟩
 · unfold insertNd
   have j1 : 0 < i → bl (entAt a.nd.ents (i - 1)).1 bound = true := fun h0 => by
     have h5 := ents_step (i := i - 1) q1 (by omega)
     have h6 : entAt (splE a.nd.ents i bound pg) (i - 1) = entAt a.nd.ents (i - 1) := by
       unfold splE
       rw [entAt_left (by rw [List.length_take]; omega)]
       unfold entAt
       simp [List.getD, List.getElem?_take, show i - 1 < i by omega]
     have h7 : (entAt (splE a.nd.ents i bound pg) (i - 1 + 1)).1 = bound := by
       unfold splE
       rw [entAt_right (by rw [List.length_take]; omega)]
       rw [List.length_take, Nat.min_eq_left (by omega), show i - 1 + 1 - i = 0 by omega]
       rfl
     rw [h6, h7] at h5
     exact h5
   have j2 : (entAt a.nd.ents i).1 ≠ [] → bl bound (entAt a.nd.ents i).1 = true := fun h0 => by
     have h4 : i + 1 ≠ a.nd.ents.length := fun e => h0 ((ents_last s.ents hilt).2 e)
     have h5 := ents_step (i := i) q1 (by omega)
     have h6 : (entAt (splE a.nd.ents i bound pg) i).1 = bound := by
       unfold splE
       rw [entAt_right (by rw [List.length_take]; omega)]
       rw [List.length_take, Nat.min_eq_left (by omega), show i - i = 0 by omega]
       rfl
     have h7 : (entAt (splE a.nd.ents i bound pg) (i + 1)).1 = (entAt a.nd.ents i).1 := by
       unfold splE
       rw [entAt_right (by rw [List.length_take]; omega)]
       rw [List.length_take, Nat.min_eq_left (by omega), show i + 1 - i = 1 by omega]
       rfl
     rw [h6, h7] at h5
     exact h5
   rw [if_neg, if_neg, if_neg]
   · simp
   · omega
   · simp only [Int.toNat_natCast]
     rintro (h | h | ⟨h, h'⟩ | ⟨h, h'⟩)
     · exact b1 h
     · omega
     · rw [j1 (by omega)] at h'; cases h'
     · rw [j2 h] at h'; cases h'
   · rw [s.node, hpg]
     simp; omega
 · exact short_fits s.keyed hnode (by simp only; omega) hshort
 · simp only; omega
 · refine pagesB_iff.2 ⟨fun x hx => ⟨by simp, ?_⟩, ?_⟩
   · have hm : x.2 ∈ (splE a.nd.ents i bound pg).map (·.2) := List.mem_map.2 ⟨x, hx, rfl⟩
     rw [hperm] at hm
     rcases List.mem_append.1 hm with hm | hm
     · obtain ⟨y, hy, e⟩ := List.mem_map.1 hm
       rw [← e]; exact (n1 y (List.mem_of_mem_take hy)).2
     · rcases List.mem_cons.1 hm with hm | hm
       · rw [hm]; exact ⟨p1, p2⟩
       · obtain ⟨y, hy, e⟩ := List.mem_map.1 hm
         rw [← e]; exact (n1 y (List.mem_of_mem_drop hy)).2
   · rw [hperm]
     have e : a.nd.ents.map (·.2) = (a.nd.ents.take (i + 1)).map (·.2) ++ (a.nd.ents.drop (i + 1)).map (·.2) := by rw [← List.map_append, List.take_append_drop]
     rw [e] at n2 hpn
     exact List.perm_middle.nodup_iff.2 (List.nodup_cons.2 ⟨hpn, n2⟩)
 · simp only; rw [hl1, hl2, s.len]
 · simp only
   have : decide (1 < (splV a.ivs i (l.take m) (l.drop m)).length) = true := by rw [hl2]; have := hat.lt; simp; omega
   rw [this]; exact q2
 · unfold recsOf
   simp only
   rw [splV_flat hat.lt, List.take_append_drop, hl, hi]
   rw [hi] at hat
   exact hat.put
end Dsd
namespace Dsd
theorem fcR_cons (x : List UInt8) (L : Recs) : fcR (x :: L) = fcR L + if two2 x.length L = true then 0 else 3 := rfl
theorem fc_one (x o : List UInt8) (B : Recs) : fcR (x :: B) ≤ fcR (x :: o :: B) := by
 simp only [fcR]
 by_cases h : two2 x.length (o :: B) = true
 · rw [if_pos h]
   match B, h with
   | y :: B, h =>
     simp only [two2, Bool.and_eq_true, beq_iff_eq] at h
     rw [h.1]; omega
 · rw [if_neg h]; split <;> omega
theorem fc_two (x y o : List UInt8) (B : Recs) : fcR (x :: y :: B) ≤ fcR (x :: y :: o :: B) := by
 have h1 := fc_one y o B
 rw [fcR_cons x (y :: B), fcR_cons x (y :: o :: B)]
 by_cases h2 : two2 x.length (y :: o :: B) = true
 · rw [if_pos h2]
   by_cases h3 : two2 x.length (y :: B) = true
   · rw [if_pos h3]; omega
   · rw [if_neg h3]
     simp only [two2, Bool.and_eq_true, beq_iff_eq] at h2
     have hb : two2 o.length B = false ∧ two2 y.length (o :: B) = false := by
       cases B with
       | nil => exact ⟨rfl, rfl⟩
       | cons z B =>
         simp only [two2, Bool.and_eq_true, beq_iff_eq] at h3
         have hz : z.length ≠ x.length := fun e => h3 ⟨h2.1, e⟩
         constructor
         · cases B with
           | nil => rfl
           | cons w B => simp only [two2, Bool.and_eq_false_iff, beq_eq_false_iff_ne]; left; omega
         · simp only [two2, Bool.and_eq_false_iff, beq_eq_false_iff_ne]; right; omega
     simp only [fcR, hb.1, hb.2, Bool.false_eq_true, if_false]
     split <;> omega
 · rw [if_neg h2]; split <;> omega
theorem fc_mid (o : List UInt8) (B : Recs) : ∀ (A : Recs), fcR (A ++ B) ≤ fcR (A ++ o :: B)
 | [] => by simp only [List.nil_append, fcR]; omega
 | [x] => fc_one x o B
 | [x, y] => fc_two x y o B
 | x :: y :: z :: A => by
   have ih := fc_mid o B (y :: z :: A)
   simp only [List.cons_append] at ih ⊢
   have e : two2 x.length (y :: z :: (A ++ B)) = two2 x.length (y :: z :: (A ++ o :: B)) := rfl
   rw [fcR_cons x, fcR_cons x, e]
   omega
theorem size_del (A B : Recs) (o : List UInt8) : sizeL (A ++ B) ≤ sizeL (A ++ o :: B) := by
 rw [sizeL_fc, sizeL_fc, sumLen_app, sumLen_app]
 have h1 := fc_mid o B A
 have h2 : sumLen (o :: B) = o.length + sumLen B := by simp [sumLen]
 omega
theorem delL_parts {d : DS} {k : List UInt8} : ∀ {L : Recs}, (∃ s ∈ L, keyD d s = k) → ∃ A o B, L = A ++ o :: B ∧ delL d k L = A ++ B
 | [], h => by simp at h
 | s :: L, h => by
   rw [delL]
   split
   · exact ⟨[], s, L, rfl, rfl⟩
   · rename_i h1
     obtain ⟨A, o, B, h2, h3⟩ := delL_parts (d := d) (k := k) (L := L) (by
       obtain ⟨t, ht, h2⟩ := h
       rcases List.mem_cons.1 ht with rfl | ht
       · exact absurd h2 h1
       · exact ⟨t, ht, h2⟩)
     exact ⟨s :: A, o, B, by rw [h2]; rfl, by rw [h3]; rfl⟩
theorem del_fits {d : DS} {k : List UInt8} {L : Recs} (hL : fitsB d.interval L = true) (h : ∃ s ∈ L, keyD d s = k) : fitsB d.interval (delL d k L) = true := by
 obtain ⟨f1, f2, f3⟩ := fits_spec hL
 obtain ⟨A, o, B, e1, e2⟩ := delL_parts h
 have := size_del A B o
 unfold fitsB
 have hal : allowedB (delL d k L) = true := allowed_all.2 fun s hs => allowed_all.1 f2 s ((delL_sub d k L).subset hs)
 rw [f1, hal, e2]
 rw [e1] at f3
 simp
 omega
theorem del_keep {d : DS} {a : Ar} {k : List UInt8} (I : AInv d a) {i : Nat} (hi : i = findNd a.nd.ents k) (h : ∃ s ∈ a.ivs.getD i [], keyD d s = k) (hn : delL d k (a.ivs.getD i []) ≠ [] ∨ a.ivs.length = 1) :
   AInv d { a with ivs := a.ivs.set i (delL d k (a.ivs.getD i [])) } ∧ recsOf { a with ivs := a.ivs.set i (delL d k (a.ivs.getD i [])) } = delL d k (recsOf a) := by
 have s := I.spec
 have hat := s.at k
 rw [← hi] at hat
 have hm := s.mem hat.lt
 refine ⟨⟨⟨s.keyed, s.base, s.size, s.node, s.fits, s.level, s.few, s.pages, by simp [s.len], ?_⟩, I.short⟩, hat.del h⟩
 simp only [List.length_set]
 refine ivs_set s.ivs hat.lt (del_fits hm.1 h) (fun e => ?_) (delL_inc hm.2.2.1) fun t ht => .inl ((delL_sub d k _).subset ht)
 rcases hn with hn | hn
 · exact absurd e hn
 · simp; omega
def clrL : List Ent → List Ent
 | [] => []
 | [x] => [([], x.2)]
 | x :: y :: L => x :: clrL (y :: L)
theorem clrL_set : ∀ (L : List Ent), clrL L = L.set (L.length - 1) ([], (entAt L (L.length - 1)).2)
 | [] => rfl
 | [x] => rfl
 | x :: y :: L => by
   rw [clrL, clrL_set (y :: L)]
   simp [entAt]
theorem clrL_id : ∀ {L : List Ent} {b : List UInt8}, entsB b L = true → clrL L = L
 | [], _, _ => rfl
 | [x], _, h => by
   have := (ents_cons h).2.1.2 rfl
   rw [clrL, ← this]
 | x :: y :: L, _, h => by rw [clrL, clrL_id (ents_cons h).2.2.2.2]
theorem clrL_len : ∀ (L : List Ent), (clrL L).length = L.length
 | [] => rfl
 | [x] => rfl
 | x :: y :: L => by simp [clrL, clrL_len (y :: L)]
theorem clrL_pages : ∀ (L : List Ent), (clrL L).map (·.2) = L.map (·.2)
 | [] => rfl
 | [x] => rfl
 | x :: y :: L => by rw [clrL, List.map_cons, clrL_pages (y :: L)]; rfl
theorem clrL_mem : ∀ {L : List Ent} {x : Ent}, x ∈ clrL L → x ∈ L ∨ x.1 = []
 | [], x, h => by simp [clrL] at h
 | [y], x, h => by simp [clrL] at h; subst h; exact .inr rfl
 | y :: z :: L, x, h => by
   rw [clrL] at h
   rcases List.mem_cons.1 h with rfl | h
   · exact .inl (by simp)
   · rcases clrL_mem h with h | h
     · exact .inl (List.mem_cons_of_mem _ h)
     · exact .inr h
theorem clrL_cons (x : Ent) {L : List Ent} (h : L ≠ []) : clrL (x :: L) = x :: clrL L := by
 cases L with
 | nil => exact absurd rfl h
 | cons y L => rfl
theorem ents_lower {low b : List UInt8} : ∀ {E : List Ent}, bl low b = true → entsB b E = true → entsB low E = true
 | [], _, _ => rfl
 | x :: E, hb, h => by
   obtain ⟨e1, e2, e3, e4, e5⟩ := ents_cons h
   exact ents_mk e1 e2 e3 (fun hn => bl_trans hb (e4 hn)) e5
theorem ivs_lower {d : DS} {many : Bool} {low b : List UInt8} : ∀ {V : List Recs} {E : List Ent}, bl low b = true → ivsB d many b V E = true → ivsB d many low V E = true
 | [], [], _, _ => rfl
 | L :: R, x :: E, hb, h => by
   obtain ⟨g1, g2, ⟨g3, g5⟩, g4⟩ := ivs_cons.1 h
   refine ivs_cons.2 ⟨g1, g2, ⟨fun s hs => ⟨(g3 s hs).1, ?_, (g3 s hs).2.2⟩, g5⟩, g4⟩
   have h1 := (g3 s hs).2.1
   cases h2 : bl (keyD d s) low with
   | false => rfl
   | true => have := bl_trans h2 hb; rw [h1] at this; cases this
 | [], _ :: _, _, h => by simp [ivsB] at h
 | _ :: _, [], _, h => by simp [ivsB] at h
theorem ivs_gone {d : DS} {many : Bool} : ∀ {V : List Recs} {E : List Ent} {low : List UInt8} {i : Nat}, entsB low E = true → ivsB d many low V E = true → i < V.length → 1 < V.length → entsB low (clrL (E.eraseIdx i)) = true ∧ ivsB d many low (V.eraseIdx i) (clrL (E.eraseIdx i)) = true
 | L :: R, x :: E, low, 0, he, h, _, hl => by
   obtain ⟨e1, e2, e3, e4, e5⟩ := ents_cons he
   obtain ⟨g1, g2, g3, g4⟩ := ivs_cons.1 h
   have hE : E ≠ [] := fun e => by
     subst e
     have := ivs_len g4
     simp at this hl
     subst this
     simp at hl
   simp only [List.eraseIdx_cons_zero]
   rw [clrL_id e5]
   exact ⟨ents_lower (e4 hE) e5, ivs_lower (e4 hE) g4⟩
 | L :: R, x :: E, low, i + 1, he, h, hi, _ => by
   obtain ⟨e1, e2, e3, e4, e5⟩ := ents_cons he
   obtain ⟨g1, g2, g3, g4⟩ := ivs_cons.1 h
   have hlen := ivs_len g4
   simp only [List.eraseIdx_cons_succ]
   by_cases h1 : 1 < R.length
   · obtain ⟨q1, q2⟩ := ivs_gone e5 g4 (by simpa using hi) h1
     have hE : E ≠ [] := fun e => by subst e; simp at hlen; subst hlen; simp at h1
     have hne : E.eraseIdx i ≠ [] := fun e => by
       have := congrArg List.length e
       rw [List.length_eraseIdx] at this
       simp only [List.length_nil] at this
       split at this <;> omega
     have hne2 : clrL (E.eraseIdx i) ≠ [] := fun e => hne (List.eq_nil_of_length_eq_zero (by rw [← clrL_len, e]; rfl))
     rw [clrL_cons x hne]
     exact ⟨ents_mk e1 ⟨fun e => absurd (e2.1 e) hE, fun e => absurd e hne2⟩ e3 (fun _ => e4 hE) q1, ivs_cons.2 ⟨g1, g2, g3, q2⟩⟩
   · have hR : R.length = 1 := by simp at hi; omega
     have h0 : i = 0 := by simp at hi; omega
     subst h0
     match R, E, hR, hlen with
     | [M], [y], _, _ =>
       simp only [List.eraseIdx_cons_zero]
       refine ⟨ents_mk e1 ⟨fun _ => rfl, fun _ => rfl⟩ (by simp) (fun hn => absurd rfl hn) rfl, ivs_cons.2 ⟨g1, g2, ⟨fun s hs => ⟨(g3.1 s hs).1, (g3.1 s hs).2.1, .inl rfl⟩, g3.2⟩, rfl⟩⟩
     | [M], [], _, h => simp at h
     | [M], _ :: _ :: _, _, h => simp at h
 | [], _, _, _, _, _, h, _ => by simp at h
 | _ :: _, [], _, _, _, h, _, _ => by simp [ivsB] at h
theorem del_gone {d : DS} {a : Ar} {k : List UInt8} (I : AInv d a) {i : Nat} (hi : i = findNd a.nd.ents k) (h : ∃ s ∈ a.ivs.getD i [], keyD d s = k) (h0 : delL d k (a.ivs.getD i []) = []) (h1 : 1 < a.ivs.length) :
   AInv d { a with nd := { a.nd with ents := clrL (a.nd.ents.eraseIdx i) }, ivs := a.ivs.eraseIdx i } ∧ recsOf { a with nd := { a.nd with ents := clrL (a.nd.ents.eraseIdx i) }, ivs := a.ivs.eraseIdx i } = delL d k (recsOf a) := by
 have s := I.spec
 have hat := s.at k
 rw [← hi] at hat
 have hlt := hat.lt
 have hm := s.mem hat.lt
 have hns := node_iff.1 s.node
 obtain ⟨q1, q2⟩ := ivs_gone s.ents s.ivs hat.lt h1
 have hle : (clrL (a.nd.ents.eraseIdx i)).length = a.nd.ents.length - 1 := by rw [clrL_len, List.length_eraseIdx, if_pos (by rw [← s.len]; exact hat.lt)]
 have hlv : (a.ivs.eraseIdx i).length = a.ivs.length - 1 := by rw [List.length_eraseIdx, if_pos hat.lt]
 have hsl := s.len
 have hnode : nodeB { a.nd with ents := clrL (a.nd.ents.eraseIdx i) } = true := node_iff.2 ⟨by simp only; omega, by have := hns.l2; simp only; omega, hns.v1, hns.v2, hns.x1, hns.x2, q1⟩
 have hshort : ∀ x ∈ clrL (a.nd.ents.eraseIdx i), (x.1.length : Int) ≤ d.keyLength := fun x hx => by
   rcases clrL_mem hx with hx | hx
   · exact I.short x ((List.eraseIdx_sublist _ _).subset hx)
   · rw [hx]
     have := (keyed_spec s.keyed).2.2.2.2.1
     simp; omega
 obtain ⟨n1, n2⟩ := pagesB_iff.1 s.pages
 refine ⟨⟨⟨s.keyed, s.base, s.size, hnode, short_fits s.keyed hnode (by have := s.few; simp only; omega) hshort, s.level, by have := s.few; simp only; omega, ?_, by simp only; omega, ?_⟩, hshort⟩, ?_⟩
 · refine pagesB_iff.2 ⟨fun x hx => ⟨by simp, ?_⟩, ?_⟩
   · have hmem : x.2 ∈ (clrL (a.nd.ents.eraseIdx i)).map (·.2) := List.mem_map.2 ⟨x, hx, rfl⟩
     rw [clrL_pages] at hmem
     obtain ⟨y, hy, e⟩ := List.mem_map.1 hmem
     rw [← e]
     exact (n1 y ((List.eraseIdx_sublist _ _).subset hy)).2
   · rw [clrL_pages]
     exact List.Pairwise.sublist ((List.eraseIdx_sublist _ _).map _) n2
 · simp only
   exact ivs_many (fun _ => .inl (by simpa using h1)) q2
 · have := hat.del h
   rw [h0, flat_set hlt] at this
   unfold recsOf
   rw [← this]
   simp only
   rw [List.eraseIdx_eq_take_drop_succ]
   simp
def newA (base : Int) : Ar := ⟨base, ⟨0, 0, [([], base + 1)]⟩, [[]]⟩
theorem new_inv {d : DS} (hd : keyedB d = true) {base : Int} (hb : isBaseB base = true) : AInv d (newA base) := by
 obtain ⟨h1, h2, h3, h4, h5, h6, h7, h8, h9⟩ := keyed_spec hd
 have hz := isSize_le (valid_spec h1).2.2.1
 have hb2 : 1 ≤ base ∧ base ≤ 16777208 := by unfold isBaseB at hb; simpa using hb
 have hn : nodeB (newA base).nd = true := node_iff.2 ⟨by simp [newA], by simp [newA], by simp [newA], by simp [newA], by simp [newA], by simp [newA], ents_mk (by simp [pageB]; omega) (by simp) (by simp) (fun h => absurd rfl h) rfl⟩
 have hsh : ∀ x ∈ (newA base).nd.ents, (x.1.length : Int) ≤ d.keyLength := fun x hx => by simp [newA] at hx; subst hx; simp; omega
 refine ⟨⟨hd, hb, (valid_spec h1).2.2.1, hn, short_fits hd hn (by simp [newA]; omega) hsh, rfl, by simp [newA]; omega, by simp [newA, pagesB]; omega, rfl, ?_⟩, hsh⟩
 refine ivs_cons.2 ⟨fun _ => rfl, ?_, ⟨fun s hs => by simp at hs, by simp [Inc]⟩, rfl⟩
 unfold fitsB
 rw [(valid_spec h1).2.2.1]
 have : sizeL [] = 4 := by rw [sizeL_fc]; rfl
 rw [this]
 simp [allowedB]
 omega
end Dsd
namespace Dsd
end Dsd
namespace Dsd
def lowAt (E : List Ent) (i : Nat) : List UInt8 := if i = 0 then [] else (entAt E (i - 1)).1
theorem lowAt_succ (E : List Ent) (i : Nat) : lowAt E (i + 1) = (entAt E i).1 := rfl
theorem ivs_at' {d : DS} {many : Bool} : ∀ {V : List Recs} {E : List Ent} {low : List UInt8} {i : Nat}, ivsB d many low V E = true → i < V.length →
   fitsB d.interval (V.getD i []) = true ∧ (V.getD i [] = [] → many = false) ∧ (∀ s ∈ V.getD i [], InIv d (if i = 0 then low else (entAt E (i - 1)).1) (entAt E i).1 s) ∧ Inc d (V.getD i [])
 | [], _, _, _, _, h => by simp at h
 | L :: V, [], _, _, h, _ => by simp [ivsB] at h
 | L :: V, x :: E, low, 0, h, _ => by
   obtain ⟨h1, h2, ⟨h3, h4⟩, _⟩ := ivs_cons.1 h
   exact ⟨h2, h1, h3, h4⟩
 | L :: V, x :: E, low, i + 1, h, hi => by
   obtain ⟨_, _, _, h5⟩ := ivs_cons.1 h
   obtain ⟨g1, g2, g3, g4⟩ := ivs_at' (i := i) h5 (by simpa using hi)
   refine ⟨g1, g2, fun s hs => ?_, g4⟩
   have := g3 s hs
   cases i with
   | zero => exact this
   | succ i => exact this
theorem ASpec.iv {d : DS} {a : Ar} (s : ASpec d a) {i : Nat} (hi : i < a.ivs.length) :
   fitsB d.interval (a.ivs.getD i []) = true ∧ (a.ivs.getD i [] = [] → a.ivs.length = 1) ∧ (∀ t ∈ a.ivs.getD i [], InIv d (lowAt a.nd.ents i) (entAt a.nd.ents i).1 t) ∧ Inc d (a.ivs.getD i []) := by
 obtain ⟨h1, h2, h3, h4⟩ := ivs_at' s.ivs hi
 refine ⟨h1, fun e => ?_, h3, h4⟩
 have := h2 e
 simp at this
 omega
theorem sum_len : ∀ {L : Recs}, (∀ s ∈ L, 1 ≤ s.length) → L.length ≤ sumLen L ∧ ∀ s ∈ L, s.length ≤ sumLen L
 | [], _ => by simp [sumLen]
 | x :: L, h => by
   obtain ⟨h1, h2⟩ := sum_len (L := L) (fun s hs => h s (by simp [hs]))
   have h3 := h x (by simp)
   have e : sumLen (x :: L) = x.length + sumLen L := by simp [sumLen]
   refine ⟨by rw [e, List.length_cons]; omega, fun s hs => ?_⟩
   rw [e]
   rcases List.mem_cons.1 hs with rfl | hs
   · omega
   · have := h2 s hs; omega
theorem fits_small {size : Int} {L : Recs} (h : fitsB size L = true) : L.length ≤ 512 ∧ ∀ s ∈ L, s.length ≤ 512 := by
 obtain ⟨h1, h2, h3⟩ := fits_spec h
 have hz := isSize_le h1
 obtain ⟨g1, g2⟩ := sum_len (L := L) (fun s hs => by have := allowed_all.1 h2 s hs; unfold okLen at this; simp at this; omega)
 have h4 := sizeL_fc L
 refine ⟨by omega, fun s hs => ?_⟩
 have := g2 s hs
 omega
theorem inc_lt {d : DS} {L : Recs} (h : Inc d L) {i j : Nat} (hij : i < j) (hj : j < L.length) : bl (keyD d (L.getD i [])) (keyD d (L.getD j [])) = true := by
 have h1 := List.pairwise_iff_getElem.1 h i j (by omega) hj hij
 have e1 : L.getD i [] = L[i]'(by omega) := by simp [List.getD, List.getElem?_eq_getElem (show i < L.length by omega)]
 have e2 : L.getD j [] = L[j]'hj := by simp [List.getD, List.getElem?_eq_getElem hj]
 rw [e1, e2]; exact h1
theorem getD_mem {L : Recs} {i : Nat} (h : i < L.length) : L.getD i [] ∈ L := by simp [List.getD, List.getElem?_eq_getElem h]
def posL (d : DS) (k : List UInt8) : Recs → Nat
 | [] => 0
 | s :: L => if bl (keyD d s) k = true then posL d k L + 1 else 0
def hitL (d : DS) (k : List UInt8) (L : Recs) : Bool := match L.drop (posL d k L) with
 | [] => false
 | s :: _ => keyD d s == k
theorem posL_le (d : DS) (k : List UInt8) : ∀ (L : Recs), posL d k L ≤ L.length
 | [] => Nat.le_refl _
 | s :: L => by
   have := posL_le d k L
   rw [posL]
   split
   · simp; omega
   · omega
theorem posL_is {d : DS} {k : List UInt8} : ∀ {L : Recs} {p : Nat}, p ≤ L.length → (∀ i, i < p → bl (keyD d (L.getD i [])) k = true) → (p < L.length → bl (keyD d (L.getD p [])) k = false) → posL d k L = p
 | [], p, h, _, _ => by simp at h; rw [h]; rfl
 | s :: L, 0, _, _, h3 => by
   have := h3 (by simp)
   rw [posL, if_neg]
   simp only [List.getD_cons_zero] at this
   rw [this]; simp
 | s :: L, p + 1, h1, h2, h3 => by
   have h0 := h2 0 (by omega)
   simp only [List.getD_cons_zero] at h0
   rw [posL, if_pos h0, posL_is (p := p) (by simpa using h1) (fun i hi => by have := h2 (i + 1) (by omega); simpa using this) (fun hi => by have := h3 (by simpa using hi); simpa using this)]
theorem hitL_is {d : DS} {k : List UInt8} {L : Recs} (h : posL d k L < L.length) : hitL d k L = (keyD d (L.getD (posL d k L) []) == k) := by
 unfold hitL
 rw [List.drop_eq_getElem_cons h]
 simp [List.getD, List.getElem?_eq_getElem h]
theorem hitL_no {d : DS} {k : List UInt8} {L : Recs} (h : ¬ posL d k L < L.length) : hitL d k L = false := by
 unfold hitL
 rw [List.drop_eq_nil_of_le (by omega)]
theorem putL_miss {d : DS} {r : List UInt8} : ∀ {L : Recs}, hitL d (keyD d r) L = false → putL d r L = L.take (posL d (keyD d r) L) ++ r :: L.drop (posL d (keyD d r) L)
 | [], _ => rfl
 | s :: L, h => by
   unfold hitL at h
   rw [putL, posL] at *
   split
   · rename_i h1
     rw [if_pos h1] at h
     rw [List.drop_succ_cons] at h
     rw [putL_miss (L := L) h, List.take_succ_cons, List.drop_succ_cons, List.cons_append]
   · rename_i h1
     rw [if_neg h1] at h
     simp only [List.drop_zero, beq_eq_false_iff_ne] at h
     rw [if_neg h]; rfl
theorem putL_hit {d : DS} {r : List UInt8} : ∀ {L : Recs}, hitL d (keyD d r) L = true → posL d (keyD d r) L < L.length ∧ putL d r L = L.set (posL d (keyD d r) L) r
 | [], h => by simp [hitL] at h
 | s :: L, h => by
   unfold hitL at h
   rw [putL, posL] at *
   split
   · rename_i h1
     rw [if_pos h1, List.drop_succ_cons] at h
     obtain ⟨g1, g2⟩ := putL_hit (L := L) h
     exact ⟨by simpa using g1, by rw [g2, List.set_cons_succ]⟩
   · rename_i h1
     rw [if_neg h1] at h
     simp only [List.drop_zero, beq_iff_eq] at h
     rw [if_pos h]
     exact ⟨by simp, rfl⟩
theorem delL_hit {d : DS} {k : List UInt8} : ∀ {L : Recs}, hitL d k L = true → posL d k L < L.length ∧ delL d k L = L.take (posL d k L) ++ L.drop (posL d k L + 1) ∧ ∃ s ∈ L, keyD d s = k
 | [], h => by simp [hitL] at h
 | s :: L, h => by
   unfold hitL at h
   rw [delL, posL] at *
   split
   · rename_i h1
     rw [if_pos h1, List.drop_succ_cons] at h
     obtain ⟨g1, g2, t, g3, g4⟩ := delL_hit (L := L) h
     refine ⟨by simpa using g1, ?_, t, by simp [g3], g4⟩
     rw [if_neg (bl_ne h1), g2, List.take_succ_cons, List.drop_succ_cons, List.cons_append]
   · rename_i h1
     rw [if_neg h1] at h
     simp only [List.drop_zero, beq_iff_eq] at h
     rw [if_pos h]
     exact ⟨by simp, rfl, s, by simp, h⟩
theorem hitL_iff {d : DS} {k : List UInt8} : ∀ {L : Recs}, Inc d L → (hitL d k L = true ↔ ∃ s ∈ L, keyD d s = k)
 | [], _ => by simp [hitL]
 | s :: L, h => by
   unfold Inc at h
   rw [List.pairwise_cons] at h
   have ih := hitL_iff (d := d) (k := k) (L := L) h.2
   unfold hitL at ih ⊢
   rw [posL]
   by_cases h1 : bl (keyD d s) k = true
   · rw [if_pos h1, List.drop_succ_cons, ih]
     simp only [List.mem_cons, exists_eq_or_imp]
     constructor
     · exact .inr
     · rintro (h | h)
       · exact absurd h (bl_ne h1)
       · exact h
   · rw [if_neg h1]
     simp only [List.drop_zero, beq_iff_eq, List.mem_cons, exists_eq_or_imp]
     constructor
     · exact .inl
     · rintro (h2 | ⟨t, ht, rfl⟩)
       · exact h2
       · exact absurd (h.1 t ht) h1
end Dsd
