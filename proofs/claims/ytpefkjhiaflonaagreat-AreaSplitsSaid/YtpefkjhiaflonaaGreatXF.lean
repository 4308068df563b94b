/- Facts for regions that draw their order. -/
import Derived.Test.YtpefkjhiaflonaaGreatApp0
import Derived.Test.YtpefkjhiaflonaaGreatXH
set_option linter.unusedSimpArgs false
set_option linter.unusedVariables false
namespace Go.Proofs.YtpefkjhiaflonaaGreat
open Go.RowKit Dsd

/-- A variable of its own. -/
def PtrF (B : Nat) (o : Obj) : Fact := fun x w => ∃ b, x = .pointer (some ⟨b, 0, none⟩) ∧ Blk w b o ∧ B ≤ b
theorem PtrF.stable (B : Nat) (o : Obj) : (PtrF B o).stable := fun _ _ _ he ⟨b, h1, h2, h3⟩ => ⟨b, h1, he.blk _ _ h2, h3⟩

theorem Any.strong {K : Kills} {R : Nat → Rel} : Any.strong K R := fun _ _ _ _ _ _ h => h
/-- A variable of type t, that was made behind B's blocks, takes another value. -/
def TChg (B : Nat) (t : TypeId) : Rel := fun w w' => ∃ b cs, B ≤ b ∧ Blk w b (.cells cs t) ∧ Chg b w w'
theorem TChg.below {B : Nat} {t : TypeId} {w w' : World} (c : TChg B t w w') : Below B w w' := by
  obtain ⟨b, cs, hB, hb, hc⟩ := c
  exact ⟨hc.os, hc.tape, hc.output, by rw [hc.size]; have := Blk.lt hb; omega, fun k hk => hc.block k (by omega)⟩
theorem Blk.tchg {B b : Nat} {t t' : TypeId} {w w' : World} {cs : Array Value} (h : Blk w b (.cells cs t')) (hne : t' ≠ t) (c : TChg B t w w') : w'.heap[b]? = w.heap[b]? := by
  obtain ⟨b0, cs0, hB, hb0, hc⟩ := c
  refine hc.block b fun e => ?_
  subst e
  have := (Eq.symm h).trans hb0
  simp at this
  exact hne this.2
theorem Blk.tchg' {B b : Nat} {t t' : TypeId} {w w' : World} {cs : Array Value} (h : Blk w b (.cells cs t')) (hne : t' ≠ t) (c : TChg B t w w') : Blk w' b (.cells cs t') := (Blk.tchg h hne c).trans h
theorem own_tchg {B : Nat} {t : TypeId} {w w' : World} {base : Nat} {e : TypeId} {size : Nat} {v : Value} {n : Nat} {xs : List Value} (h : w.ownsRow base e size v n xs) (hne : e ≠ t) (c : TChg B t w w') : w'.ownsRow base e size v n xs := by
  refine ⟨h.1, ?_⟩
  rcases h.2 with hn | ⟨b, cap, cur, rfl, hb, hg, rest⟩
  · exact .inl hn
  · exact .inr ⟨b, cap, cur, rfl, hb, Blk.tchg' hg hne c, rest⟩
theorem own_chgT {w w' : World} {base : Nat} {e t : TypeId} {size : Nat} {v : Value} {n b : Nat} {xs : List Value} {cs : Array Value} (h : w.ownsRow base e size v n xs) (hne : e ≠ t) (hb : Blk w b (.cells cs t)) (c : Chg b w w') : w'.ownsRow base e size v n xs :=
  own_tchg (B := 0) h hne ⟨b, cs, Nat.zero_le _, hb, c⟩
end Go.Proofs.YtpefkjhiaflonaaGreat
