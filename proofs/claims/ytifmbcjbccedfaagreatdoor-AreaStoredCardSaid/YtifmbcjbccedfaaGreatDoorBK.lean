/- A part of the proof. -/
import Derived.Test.YtifmbcjbccedfaaGreatDoorBH
import Derived.Test.YtifmbcjbccedfaaGreatDoorAO

set_option linter.unusedSimpArgs false
set_option linter.unusedVariables false
namespace Dsd
theorem ents_lastB : ∀ {b : List UInt8} {L : List Ent}, entsB b L = true → ∀ k, k < L.length → ((entAt L k).1.isEmpty = decide (k + 1 = L.length))
 | _, [], _, k, h => by simp at h
 | b, x :: L, he, k, h => by
   obtain ⟨_, h2, _, _, h5⟩ := ents_cons he
   cases k with
   | zero =>
     rw [Bool.eq_iff_iff, List.isEmpty_iff, decide_eq_true_eq]
     show x.1 = [] ↔ _
     rw [h2]
     constructor
     · intro e; subst e; rfl
     · intro e; exact List.eq_nil_of_length_eq_zero (by simpa using e)
   | succ k =>
     have := ents_lastB h5 k (by simpa using h)
     show (entAt L k).1.isEmpty = _
     rw [this]
     simp
theorem ivs_dropB {d : DS} {many : Bool} {V : List Recs} {E : List Ent} {low : List UInt8} {k : Nat} (h : k < V.length) (hE : k < E.length) :
   ivsB d many low (V.drop k) (E.drop k) = (!((V.getD k []).isEmpty && many) && fitsB d.interval (V.getD k []) && recsB d low (entAt E k).1 none (V.getD k []) && ivsB d many (entAt E k).1 (V.drop (k + 1)) (E.drop (k + 1))) := by
 have e : entAt E k = E[k] := by simp [entAt, List.getD, hE]
 have e2 : V.getD k [] = V[k] := by simp [List.getD, h]
 rw [List.drop_eq_getElem_cons h, List.drop_eq_getElem_cons hE, ivsB, e, e2]
def prevK (d : DS) (L : Recs) (j : Nat) : Option (List UInt8) := if j = 0 then none else some (keyD d (L.getD (j - 1) []))
theorem recs_drop {d : DS} {low below : List UInt8} {L : Recs} {j : Nat} (h : j < L.length) :
   recsB d low below (prevK d L j) (L.drop j) = (recB d (L.getD j []) && !bl (keyD d (L.getD j [])) low && (below.isEmpty || bl (keyD d (L.getD j [])) below) && aboveB (prevK d L j) (keyD d (L.getD j [])) && recsB d low below (prevK d L (j + 1)) (L.drop (j + 1))) := by
 have e : L.getD j [] = L[j] := by simp [List.getD, h]
 have e2 : prevK d L (j + 1) = some (keyD d (L.getD j [])) := rfl
 rw [List.drop_eq_getElem_cons h, recsB, e2, e]
end Dsd
namespace Dsd
open Go Go.RowKit
section
variable {P : Program} {ops : Array Oper} {Q : Exit → Act → World → Prop} {w0 : World} {tail : List Oper} {ds : List Deferred} {rest : List Oper} {o : Oper} {L : List Fact}
theorem wanted_none {a : Act} {w : World} (hr : Reads ops (factAt L) o a w) {g : Nat} {b : Bool} {t : Tmp} (hg : o.guard = some (g, b)) (ht : (ops[g]?).bind (·.dst) = some t) (hL : L.getD t (Is undef) = Is undef) :
   Region.wanted o (yielded ops a.tmps) = false := by
 have h1 := hr t (by simp [Oper.looksAt, hg, ht])
 unfold factAt at h1
 rw [hL] at h1
 have h2 : a.tmps.getD t undef = undef := h1
 have h4 : yielded ops a.tmps g = none := by
   unfold yielded
   rw [ht]
   cases h : a.tmps[t]? with
   | none => simp [h]
   | some x => simp [h] at h2; subst h2; simp [h]; rfl
 unfold Region.wanted
 rw [hg]
 simp only [h4]
 rfl
theorem wpML_skipU {g : Nat} {b : Bool} {t : Tmp} (hg : o.guard = some (g, b)) (ht : (ops[g]?).bind (·.dst) = some t) (hL : L.getD t (Is undef) = Is undef)
   (h : wpML P ops Q w0 tail ds rest (setL L o.dst (Is undef))) : wpML P ops Q w0 tail ds (o :: rest) L :=
 ⟨_, Is.stable undef, fun a w he hr => by unfold StepTo; rw [if_neg (by rw [wanted_none hr hg ht hL]; simp)]; rfl, h⟩
end
end Dsd
namespace Go.Proofs.YtifmbcjbccedfaaGreatDoor
open Go.RowKit Dsd
end Go.Proofs.YtifmbcjbccedfaaGreatDoor
