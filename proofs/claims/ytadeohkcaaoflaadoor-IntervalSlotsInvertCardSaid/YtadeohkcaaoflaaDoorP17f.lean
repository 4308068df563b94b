/- Plain words of chapter 17: what an interval of slots is. -/
import Derived.Test.YtadeohkcaaoflaaDoorP17e
namespace Dsd

def slotAt (L : List (Bool × List UInt8)) (i : Nat) : Bool × List UInt8 := L.getD i (false, [])
def slotGood (len : Nat) (x : Bool × List UInt8) : Bool := if x.1 then x.2.length == len else x.2.isEmpty
def slotBytes (len : Nat) (x : Bool × List UInt8) : List UInt8 := if x.1 then x.2 else List.replicate len 0
def slotMark (len : Nat) (x : Bool × List UInt8) : List UInt8 := fieldL (if x.1 then 0 else 4) len
def sCont (len : Nat) (L : List (Bool × List UInt8)) : Nat → List UInt8
  | 0 => []
  | k + 1 => sCont len L k ++ slotBytes len (slotAt L k)
def sMarks (len : Nat) (L : List (Bool × List UInt8)) : Nat → List UInt8
  | 0 => []
  | k + 1 => slotMark len (slotAt L k) ++ sMarks len L k
def sGood (len : Nat) (L : List (Bool × List UInt8)) (k : Nat) : Prop := ∀ i, i < k → slotGood len (slotAt L i) = true
theorem sGood_zero (len : Nat) (L : List (Bool × List UInt8)) : sGood len L 0 := fun i hi => by omega
theorem sGood_succ {len : Nat} {L : List (Bool × List UInt8)} {k : Nat} (h : sGood len L k) (h2 : slotGood len (slotAt L k) = true) : sGood len L (k + 1) := fun i hi => by
  by_cases hk : i = k
  · subst hk; exact h2
  · exact h i (by omega)
theorem length_slotBytes {len : Nat} {x : Bool × List UInt8} (h : slotGood len x = true) : (slotBytes len x).length = len := by
  obtain ⟨u, r⟩ := x
  unfold slotGood slotBytes at *
  cases u <;> simp_all
theorem length_sCont {len : Nat} {L : List (Bool × List UInt8)} : ∀ {k : Nat}, sGood len L k → (sCont len L k).length = k * len
  | 0, _ => by simp [sCont]
  | k + 1, h => by
    rw [sCont, List.length_append, length_sCont (fun i hi => h i (by omega)), length_slotBytes (h k (by omega)), Nat.add_mul]; omega
theorem length_sMarks (len : Nat) (L : List (Bool × List UInt8)) : ∀ k : Nat, (sMarks len L k).length = 3 * k
  | 0 => rfl
  | k + 1 => by rw [sMarks, List.length_append, length_sMarks len L k]; simp [slotMark, length_fieldL]; omega
open Classical in
/-- The error of EncodeSlots, where N slots fit, of this length. -/
noncomputable def sErr (N : Nat) (len : Nat) (L : List (Bool × List UInt8)) : Int := if N = 0 then 1 else if N < L.length then 8 else if sGood len L N then 0 else 2
noncomputable def sStr (size N len : Nat) (L : List (Bool × List UInt8)) : List UInt8 := if sErr N len L = 0 then wholeL size (sCont len L N) (sMarks len L N) else []
theorem sErr_bad {N len : Nat} {L : List (Bool × List UInt8)} {k : Nat} (hN : N ≠ 0) (hL : L.length ≤ N) (hk : k < N) (hb : slotGood len (slotAt L k) = false) : sErr N len L = 2 := by
  unfold sErr
  rw [if_neg hN, if_neg (by omega), if_neg (fun h => by rw [h k hk] at hb; cases hb)]
theorem sErr_good {N len : Nat} {L : List (Bool × List UInt8)} (hN : N ≠ 0) (hL : L.length ≤ N) (h : sGood len L N) : sErr N len L = 0 := by
  unfold sErr
  rw [if_neg hN, if_neg (by omega), if_pos h]
end Dsd
