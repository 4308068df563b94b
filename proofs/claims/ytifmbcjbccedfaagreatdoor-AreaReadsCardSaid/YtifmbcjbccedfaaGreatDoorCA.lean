/- A part of the proof. -/
import Derived.Test.YtifmbcjbccedfaaGreatDoorBH

set_option linter.unusedSimpArgs false
set_option linter.unusedVariables false
namespace Dsd
open Go
abbrev Wr := Int × List UInt8
def wrC (L : List Wr) : List Value := L.flatMap fun x => [.int .i64 x.1, .string ⟨x.2.toArray⟩]
theorem wrC_cons (x : Wr) (L : List Wr) : wrC (x :: L) = .int .i64 x.1 :: .string ⟨x.2.toArray⟩ :: wrC L := rfl
def wrAt (L : List Wr) (i : Nat) : Wr := L.getD i (0, [])
theorem wrAt_cons (x : Wr) (L : List Wr) (i : Nat) : wrAt (x :: L) (i + 1) = wrAt L i := by simp [wrAt]
theorem wrC_at : ∀ (L : List Wr) (i : Nat), i < L.length → (wrC L)[i * 2]? = some (.int .i64 (wrAt L i).1) ∧ (wrC L)[i * 2 + 1]? = some (.string ⟨(wrAt L i).2.toArray⟩)
 | [], i, h => by simp at h
 | x :: L, 0, _ => by simp [wrC_cons, wrAt]
 | x :: L, i + 1, h => by
   have ih := wrC_at L i (by simpa using h)
   rw [wrC_cons, wrAt_cons, show (i + 1) * 2 = i * 2 + 1 + 1 by omega, show i * 2 + 1 + 1 + 1 = (i * 2 + 1) + 1 + 1 by omega]
   simpa using ih
theorem wrC_set : ∀ (L : List Wr) (i : Nat) (y : Wr), i < L.length → wrC (L.set i y) = ((wrC L).set (i * 2) (.int .i64 y.1)).set (i * 2 + 1) (.string ⟨y.2.toArray⟩)
 | [], i, y, h => by simp at h
 | x :: L, 0, y, _ => by simp [wrC_cons]
 | x :: L, i + 1, y, h => by
   have ih := wrC_set L i y (by simpa using h)
   rw [List.set_cons_succ, wrC_cons, wrC_cons, ih, show (i + 1) * 2 = i * 2 + 1 + 1 by omega, show i * 2 + 1 + 1 + 1 = (i * 2 + 1) + 1 + 1 by omega]
   simp only [List.set_cons_succ]
def encN (size : Int) (n : Nd) : List UInt8 := formL n ++ List.replicate (size.toNat - (formL n).length) 0
end Dsd
