/- A part of the proof. -/
import Derived.Test.YtifmbcjbccedfaaGreatDoorCB

set_option linter.unusedSimpArgs false
set_option linter.unusedVariables false
namespace Dsd
open Go.Proofs.YtifmbcjbccedfaaGreatDoor (encNE encNS)
def numL : List UInt8 → Nat
 | [] => 0
 | x :: l => x.toNat + 256 * numL l
theorem ofNat_toNat {x : Nat} (h : x < 256) : (UInt8.ofNat x).toNat = x := by rw [UInt8.toNat_ofNat']; exact Nat.mod_eq_of_lt h
theorem numL_four {n : Nat} (h : n < 4294967296) : numL (fourL n) = n := by
 simp only [fourL, numL]
 rw [ofNat_toNat (by omega), ofNat_toNat (by omega), ofNat_toNat (by omega), ofNat_toNat (by omega)]
 omega
theorem numL_one (x : UInt8) : numL [x] = x.toNat := by simp [numL]
theorem numL_lt : ∀ (l : List UInt8), numL l < 256 ^ l.length
 | [] => by simp [numL]
 | x :: l => by
   have h1 := numL_lt l
   have h2 := UInt8.toNat_lt x
   simp only [numL, List.length_cons, Nat.pow_succ]
   omega
theorem num_take1 (l : List UInt8) : numL (l.take 1) < 256 := by
 have h := numL_lt (l.take 1)
 have h2 : 256 ^ (l.take 1).length ≤ 256 ^ 1 := Nat.pow_le_pow_right (by omega) (by rw [List.length_take]; omega)
 omega
structure PS where
 before : List UInt8
 rest : List UInt8
 ents : List Ent
def frontP (s : PS) : Nat := min (numL (s.rest.take 1)) s.before.length
def moreP (s : PS) : Nat := numL ((s.rest.drop 1).take 1)
def belowP (s : PS) : List UInt8 := s.before.take (frontP s) ++ (s.rest.drop 2).take (moreP s)
def restP (s : PS) : List UInt8 := (s.rest.drop 2).drop (moreP s)
def stepN (s : PS) : PS := ⟨belowP s, (restP s).drop 4, s.ents ++ [(belowP s, (numL ((restP s).take 4) : Int))]⟩
def parseTo (data : List UInt8) : Nat → PS
 | 0 => ⟨[], data.drop 6, []⟩
 | k + 1 => stepN (parseTo data k)
def countN (data : List UInt8) : Nat := numL ((data.drop 5).take 1)
def levelN (data : List UInt8) : Nat := numL (data.take 1)
def nextN (data : List UInt8) : Nat := numL ((data.drop 1).take 4)
def parseNd (data : List UInt8) : Nd := ⟨levelN data, nextN data, (parseTo data (countN data)).ents⟩
theorem parse_len (data : List UInt8) : ∀ k, (parseTo data k).ents.length = k
 | 0 => rfl
 | k + 1 => by simp [parseTo, stepN, parse_len data k]
theorem below_len (s : PS) : (belowP s).length ≤ 510 := by
 have h1 := num_take1 s.rest
 have h2 := num_take1 (s.rest.drop 1)
 unfold belowP frontP moreP
 rw [List.length_append, List.length_take, List.length_take]
 omega
theorem parse_before (data : List UInt8) : ∀ k, (parseTo data k).before.length ≤ 510
 | 0 => by simp [parseTo]
 | k + 1 => below_len _
def decOkB (size : Int) (data : List UInt8) : Bool := decide (encNE size (parseNd data) = 0) && (encN size (parseNd data) == data)
def decE (size : Int) (data : List UInt8) : Int := if isSizeB size = false then 1 else if decOkB size data then 0 else 11
def decNd (size : Int) (data : List UInt8) : Nd := if decE size data = 0 then parseNd data else Nd.zero
theorem encNE_zero {size : Int} {n : Nd} (h : encNE size n = 0) : isSizeB size = true ∧ nodeB n = true ∧ (sizeNd n : Int) ≤ size := by
 unfold encNE at h
 split at h
 · cases h
 · rename_i h1
   split at h
   · cases h
   · have h2 : (isSizeB size && nodeB n) = true := by simpa using h1
     obtain ⟨h3, h4⟩ := Bool.and_eq_true_iff.1 h2
     exact ⟨h3, h4, by omega⟩
theorem ents_all : ∀ {E : List Ent} {b : List UInt8}, entsB b E = true → ∀ x ∈ E, pageB x.2 = true ∧ x.1.length ≤ 32
 | [], _, _, x, h => by cases h
 | y :: E, b, hb, x, h => by
   obtain ⟨h1, _, h3, _, h5⟩ := ents_cons hb
   rcases List.mem_cons.1 h with rfl | h
   · exact ⟨h1, h3⟩
   · exact ents_all h5 x h
theorem ents_at {n : Nd} (h : NSpec n) {k : Nat} (hk : k < n.ents.length) : (1 ≤ (entAt n.ents k).2 ∧ (entAt n.ents k).2 ≤ 16777216) ∧ (entAt n.ents k).1.length ≤ 32 := by
 have e : entAt n.ents k = n.ents[k] := by simp [entAt, List.getD, hk]
 obtain ⟨h1, h2⟩ := ents_all h.ents _ (List.getElem_mem hk)
 rw [← e] at h1 h2
 unfold pageB at h1
 simp only [Bool.and_eq_true, decide_eq_true_eq] at h1
 exact ⟨h1, h2⟩
theorem parse_step {n : Nd} (h : NSpec n) (zs : List UInt8) : ∀ k, k ≤ n.ents.length → parseTo (formL n ++ zs) k = ⟨keyBefore n.ents k, formGo (keyBefore n.ents k) (n.ents.drop k) ++ zs, n.ents.take k⟩
 | 0, _ => by
   have e : (formL n ++ zs).drop 6 = formGo [] n.ents ++ zs := by
     unfold formL fourL
     simp
   simp only [parseTo, e, keyBefore, if_true, List.drop_zero, List.take_zero]
 | k + 1, hk => by
   have ih := parse_step h zs k (by omega)
   obtain ⟨hp, hs⟩ := ents_at h (by omega : k < n.ents.length)
   have hfl := frontAt_le n.ents k
   have hf := frontL_le (keyBefore n.ents k) (entAt n.ents k).1
   rw [← frontAt_eq] at hf
   have htk := frontL_take (keyBefore n.ents k) (entAt n.ents k).1
   rw [← frontAt_eq] at htk
   have e0 := formGo_step (L := n.ents) (k := k) (by omega)
   have e1 : (formGo (keyBefore n.ents k) (n.ents.drop k) ++ zs) = UInt8.ofNat (frontAt n.ents k) :: UInt8.ofNat ((entAt n.ents k).1.length - frontAt n.ents k) :: ((entAt n.ents k).1.drop (frontAt n.ents k) ++ (fourL (entAt n.ents k).2.toNat ++ (formGo (keyBefore n.ents (k + 1)) (n.ents.drop (k + 1)) ++ zs))) := by
     rw [e0]; simp
   have f1 : frontP (parseTo (formL n ++ zs) k) = frontAt n.ents k := by
     rw [ih]
     unfold frontP
     simp only [e1, List.take_succ_cons, List.take_zero, numL_one]
     rw [ofNat_toNat (by omega)]
     omega
   have f2 : moreP (parseTo (formL n ++ zs) k) = (entAt n.ents k).1.length - frontAt n.ents k := by
     rw [ih]
     unfold moreP
     simp only [e1, List.drop_succ_cons, List.drop_zero, List.take_succ_cons, List.take_zero, numL_one]
     exact ofNat_toNat (by omega)
   have l1 : ((entAt n.ents k).1.drop (frontAt n.ents k)).length = (entAt n.ents k).1.length - frontAt n.ents k := List.length_drop
   have f3 : belowP (parseTo (formL n ++ zs) k) = (entAt n.ents k).1 := by
     unfold belowP
     rw [f1, f2, ih]
     simp only [e1, List.drop_succ_cons, List.drop_zero]
     rw [List.take_left' l1, htk, List.take_append_drop]
   have f4 : restP (parseTo (formL n ++ zs) k) = fourL (entAt n.ents k).2.toNat ++ (formGo (keyBefore n.ents (k + 1)) (n.ents.drop (k + 1)) ++ zs) := by
     unfold restP
     rw [f2, ih]
     simp only [e1, List.drop_succ_cons, List.drop_zero]
     rw [List.drop_left' l1]
   have f5 : numL ((restP (parseTo (formL n ++ zs) k)).take 4) = (entAt n.ents k).2.toNat := by
     rw [f4, List.take_left' (by simp [fourL])]
     exact numL_four (by omega)
   have ht : n.ents.take (k + 1) = n.ents.take k ++ [entAt n.ents k] := by
     rw [List.take_succ_eq_append_getElem (by omega)]
     simp [entAt, List.getD, show k < n.ents.length by omega]
   have hkb : keyBefore n.ents (k + 1) = (entAt n.ents k).1 := by simp [keyBefore]
   have f6 : ((numL ((restP (parseTo (formL n ++ zs) k)).take 4) : Nat) : Int) = (entAt n.ents k).2 := by rw [f5]; omega
   show stepN (parseTo (formL n ++ zs) k) = _
   unfold stepN
   rw [f6, f3, f4, List.drop_left' (by simp [fourL]), ih, ht, hkb]
theorem parse_node {n : Nd} (h : NSpec n) (zs : List UInt8) : parseNd (formL n ++ zs) = n ∧ countN (formL n ++ zs) = n.ents.length := by
 have hv1 := h.v1
 have hv2 := h.v2
 have hx1 := h.x1
 have hx2 := h.x2
 have hl2 := h.l2
 have e : formL n ++ zs = UInt8.ofNat n.level.toNat :: (fourL n.next.toNat ++ (UInt8.ofNat n.ents.length :: (formGo [] n.ents ++ zs))) := by
   unfold formL; simp
 have e5 : (fourL n.next.toNat).length = 4 := by simp [fourL]
 have c1 : levelN (formL n ++ zs) = n.level.toNat := by
   unfold levelN
   rw [e]
   simp only [List.take_succ_cons, List.take_zero, numL_one]
   exact ofNat_toNat (by omega)
 have c2 : nextN (formL n ++ zs) = n.next.toNat := by
   unfold nextN
   rw [e]
   simp only [List.drop_succ_cons, List.drop_zero]
   rw [List.take_left' e5]
   exact numL_four (by omega)
 have c3 : countN (formL n ++ zs) = n.ents.length := by
   unfold countN
   rw [e]
   simp only [List.drop_succ_cons]
   rw [List.drop_left' e5]
   simp only [List.take_succ_cons, List.take_zero, numL_one]
   exact ofNat_toNat (by omega)
 refine ⟨?_, c3⟩
 unfold parseNd
 rw [c1, c2, c3, parse_step h zs _ (Nat.le_refl _)]
 obtain ⟨lv, nx, E⟩ := n
 simp only [List.take_length, Nd.mk.injEq, and_true]
 simp only at hv1 hx1
 exact ⟨by omega, by omega⟩
theorem dec_of_enc {size : Int} {n : Nd} (h : encNE size n = 0) : decOkB size (encN size n) = true ∧ parseNd (encN size n) = n := by
 obtain ⟨h1, h2, h3⟩ := encNE_zero h
 have hp := (parse_node (node_iff.1 h2) (List.replicate (size.toNat - (formL n).length) 0)).1
 refine ⟨?_, hp⟩
 unfold decOkB
 rw [show parseNd (encN size n) = n from hp, h]
 simp
theorem size_pos {size : Int} (h : isSizeB size = true) : 128 ≤ size ∧ size ≤ 512 := by
 unfold isSizeB at h
 simp at h
 omega
theorem dec_spec {size : Int} {data : List UInt8} (h : decOkB size data = true) : ∃ n, NSpec n ∧ isSizeB size = true ∧ parseNd data = n ∧ (data.length : Int) = size ∧ countN data = n.ents.length ∧ encNE size n = 0 ∧ encN size n = data ∧ ∃ zs, data = formL n ++ zs := by
 unfold decOkB at h
 obtain ⟨h1, h2⟩ := Bool.and_eq_true_iff.1 h
 have h1 := of_decide_eq_true h1
 have h2 : encN size (parseNd data) = data := by simpa using h2
 obtain ⟨g1, g2, g3⟩ := encNE_zero h1
 have sp := node_iff.1 g2
 have hs := size_pos g1
 refine ⟨parseNd data, sp, g1, rfl, ?_, ?_, h1, h2, List.replicate (size.toNat - (formL (parseNd data)).length) 0, h2.symm⟩
 · rw [← h2]
   unfold encN
   rw [List.length_append, List.length_replicate, formL_len]
   unfold sizeNd at g3
   rw [if_pos g2] at g3
   omega
 · have := (parse_node sp (List.replicate (size.toNat - (formL (parseNd data)).length) 0)).2
   rw [show formL (parseNd data) ++ List.replicate (size.toNat - (formL (parseNd data)).length) 0 = data from h2] at this
   exact this
end Dsd
namespace Dsd
open Go.Proofs.YtifmbcjbccedfaaGreatDoor (encNE encNS)
theorem decE_zero {size : Int} {data : List UInt8} (h : decE size data = 0) : isSizeB size = true ∧ decOkB size data = true ∧ decNd size data = parseNd data := by
 have h' := h
 unfold decE at h
 split at h
 · cases h
 · rename_i h1
   split at h
   · rename_i h2
     exact ⟨by simpa using h1, h2, by unfold decNd; rw [if_pos h']⟩
   · cases h
end Dsd
