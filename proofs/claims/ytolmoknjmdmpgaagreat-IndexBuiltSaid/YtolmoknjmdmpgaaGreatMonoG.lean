/- Regions that draw their order, walked once: operations under a guard whose test is known. Over any program. -/
import Derived.Test.YtolmoknjmdmpgaaGreatMono
set_option linter.unusedSimpArgs false
set_option linter.unusedVariables false
namespace Dsd
open Go Go.RowKit
section
variable {P : Program} {ops : Array Oper} {Q : Exit → Act → World → Prop} {w0 : World} {tail : List Oper} {ds : List Deferred} {rest : List Oper} {o : Oper} {L : List Fact}
theorem wanted_of {a : Act} {w : World} (hr : Reads ops (factAt L) o a w) {g : Nat} {b v : Bool} {t : Tmp} (hg : o.guard = some (g, b)) (ht : (ops[g]?).bind (·.dst) = some t) (hL : L.getD t (Is undef) = Is (.bool v)) :
    Region.wanted o (yielded ops a.tmps) = (v == b) := by
  have h1 := hr t (by simp [Oper.looksAt, hg, ht])
  unfold factAt at h1
  rw [hL] at h1
  have h2 : a.tmps.getD t undef = .bool v := h1
  have h3 : a.tmps[t]? = some (.bool v) := by
    cases h : a.tmps[t]? with
    | none => simp [h] at h2; cases h2
    | some x => simp [h] at h2; rw [h2]
  have h4 : yielded ops a.tmps g = some v := by
    unfold yielded
    rw [ht]
    simp [h3]
  unfold Region.wanted
  rw [hg]
  simp only [h4]
  cases v <;> cases b <;> rfl
/-- An operation that its guard leaves out. -/
theorem wpML_skip {g : Nat} {b v : Bool} {t : Tmp} (hg : o.guard = some (g, b)) (ht : (ops[g]?).bind (·.dst) = some t) (hL : L.getD t (Is undef) = Is (.bool v)) (hvb : (v == b) = false)
    (h : wpML P ops Q w0 tail ds rest (setL L o.dst (Is undef))) : wpML P ops Q w0 tail ds (o :: rest) L :=
  ⟨_, Is.stable undef, fun a w he hr => by unfold StepTo; rw [if_neg (by rw [wanted_of hr hg ht hL, hvb]; simp)]; rfl, h⟩
/-- An operation with one value, which its guard lets by. -/
theorem wpML_detg {g : Nat} {b v : Bool} {t : Tmp} {x : Value} (hg : o.guard = some (g, b)) (ht : (ops[g]?).bind (·.dst) = some t) (hL : L.getD t (Is undef) = Is (.bool v)) (hvb : (v == b) = true)
    (h1 : ∀ a w, Ext w0 w → Reads ops (factAt L) o a w → ∀ K : Act → World → Prop, (∀ w', Ext w w' → K (a.put o.dst x) w') → o.wp P a w K Q)
    (h : wpML P ops Q w0 tail ds rest (setL L o.dst (Is x))) : wpML P ops Q w0 tail ds (o :: rest) L :=
  ⟨_, Is.stable x, fun a w he hr => by unfold StepTo; rw [if_pos (by rw [wanted_of hr hg ht hL]; exact hvb)]; exact fun K hK => h1 a w he hr K fun w' he' => hK x w' he' rfl, h⟩
end
end Dsd
