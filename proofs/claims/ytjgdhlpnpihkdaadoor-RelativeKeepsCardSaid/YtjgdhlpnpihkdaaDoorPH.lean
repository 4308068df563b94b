/- Regions that end in 'return h, ..': the header's variable is copied into the result's; regions that append to a row of page writes. -/
import Derived.Test.YtjgdhlpnpihkdaaDoorPiv3
import Derived.Test.YtjgdhlpnpihkdaaDoorXF
set_option linter.unusedSimpArgs false
set_option linter.unusedVariables false
namespace Go.Proofs.YtjgdhlpnpihkdaaDoor
open Go.RowKit Dsd

def RP (B : Nat) : Rel := fun w w' => Below B w w' ∧ ∀ b cs t, t ≠ 53 → Blk w b (.cells cs t) → Blk w' b (.cells cs t)
def RH (hb : Nat) : Rel := fun w w' => (∃ cs, Blk w hb (.cells cs 24)) ∧ Chg hb w w'
def LdF (hb : Nat) (v : Value) : Fact := fun x w => x = v ∧ KS hb w
theorem LdF.stable (hb : Nat) (v : Value) : (LdF hb v).stable := fun _ _ _ he ⟨h1, h2⟩ => ⟨h1, h2.ext he⟩
def HbF (hb : Nat) (v : Value) (cs : Array Value) : Fact := fun x w => x = v ∧ Blk w hb (.cells cs 24)
theorem rh_other {hb b : Nat} {w w' : World} {cs : Array Value} {t : TypeId} (c : RH hb w w') (h : Blk w b (.cells cs t)) (hne : b ≠ hb) : Blk w' b (.cells cs t) := c.2.blk h hne
theorem rh_type {hb b : Nat} {w w' : World} {cs : Array Value} {t : TypeId} (c : RH hb w w') (h : Blk w b (.cells cs t)) (hne : t ≠ 24) : Blk w' b (.cells cs t) := by
  obtain ⟨⟨cs0, h0⟩, c⟩ := c
  exact Blk.tchg' (B := 0) h hne ⟨hb, cs0, Nat.zero_le _, h0, c⟩
theorem own_rp {B : Nat} {w w' : World} {base : Nat} {e : TypeId} {size : Nat} {v : Value} {n : Nat} {xs : List Value} (h : w.ownsRow base e size v n xs) (hne : e ≠ 53) (c : RP B w w') : w'.ownsRow base e size v n xs := by
  refine ⟨h.1, ?_⟩
  rcases h.2 with hn | ⟨b, cap, cur, rfl, hb, hg, rest⟩
  · exact .inl hn
  · exact .inr ⟨b, cap, cur, rfl, hb, c.2 b cur e hne hg, rest⟩
theorem own_rh {hb : Nat} {w w' : World} {base : Nat} {e : TypeId} {size : Nat} {v : Value} {n : Nat} {xs : List Value} (h : w.ownsRow base e size v n xs) (hne : e ≠ 24) (c : RH hb w w') : w'.ownsRow base e size v n xs := by
  obtain ⟨⟨cs0, h0⟩, c⟩ := c
  exact own_chgT h hne h0 c
theorem ks_rp {B b : Nat} {w w' : World} (h : KS b w) (c : RP B w w') : KS b w' := by obtain ⟨o, h1, h2⟩ := h; exact ⟨o, c.2 _ _ _ (by decide) h1, h2⟩
/-- One pivot p: the store into the result's header g; it ends the fact of operation 0 (the header that is loaded, in slot s). -/
theorem keepR {l : List Oper} {p s g k : Nat} {f : Fact} (h : Pre.condX .any l (p, [(0, s)]) k = true ∨ ∀ v w w', RH g w w' → f v w → f v w') : Pre.KeepsP .any l [(p, [(0, s)])] (fun _ => RH g) k f := by
  intro x hx; simp at hx; subst hx; exact h
theorem HbF.stable (g : Nat) (v : Value) (cs : Array Value) : (HbF g v cs).stable := fun _ _ _ he ⟨h1, h2⟩ => ⟨h1, he.blk _ _ h2⟩
theorem gok_ret (g : Nat) (w0 : World) (hw : w0.heap.size ≤ g) (cs : Array Value) (l : List Oper) (v : Value) (p s : Nat) (hm : mustB .any l 0 p = true) : GOk l w0 [(p, [(0, s)])] (fun _ => RH g) (fun _ _ => HbF g v cs) := by
  refine ⟨fun i w w' h => ?_, fun i j => HbF.stable _ _ _, fun p' j i hk hp hne x a b h hx => ?_, fun p' j hk => ?_⟩
  · obtain ⟨⟨cs0, h0⟩, c⟩ := h
    exact ⟨c.os, c.tape, c.output, by rw [c.size]; have := Blk.lt h0; omega, fun k hk => c.block k (by omega)⟩
  · simp [killB, pivB] at hk hp
    exact absurd (hp.symm.trans hk.1) hne
  · simp [killB] at hk
    obtain ⟨rfl, rfl⟩ := hk
    exact .inr hm
theorem prok_ret {l : List Oper} {p s g : Nat} {w3 : World} : Pre.PrOk .any l.toArray [(p, [(0, s)])] (fun _ => RH g) (fun _ w => Ext w3 w) :=
  ⟨fun _ _ _ _ he h => Ext.trans h he, fun p' q hp hq hne => by simp [pivB] at hp hq; exact absurd (hq.symm.trans hp) hne⟩
theorem WrF.rh {L : List (Int × List UInt8)} {g : Nat} (v : Value) (w w' : World) (c : RH g w w') (h : WrF L v w) : WrF L v w' := by
  obtain ⟨q, cc, h1, h3⟩ := h
  obtain ⟨⟨cs0, h0⟩, c⟩ := c
  exact ⟨q, cc, h1, h3.tchg (B := 0) (t := 24) (by decide) ⟨g, cs0, Nat.zero_le _, h0, c⟩⟩
/-- The first blocks of a world. -/
def cutW (w : World) (B : Nat) : World := { w with heap := w.heap.extract 0 B }
theorem cutW_ext (w : World) (B : Nat) : Ext (cutW w B) w := by
  refine ⟨rfl, rfl, rfl, ?_, fun k hk => ?_⟩
  · simp [cutW]; omega
  · simp [cutW] at hk ⊢
    rw [Array.getElem?_extract]
    simp; omega
theorem cutW_size {w : World} {B : Nat} (h : B ≤ w.heap.size) : (cutW w B).heap.size = B := by simp [cutW]; omega
/-- One pivot p: an append to a row of page writes behind B; it ends the fact of operation j (the new element, in slot s). -/
def RW (B : Nat) : Rel := fun w w' => Below B w w' ∧ ∀ b cs t, t ≠ 72 → Blk w b (.cells cs t) → Blk w' b (.cells cs t)
theorem rw_of {w w' : World} {B size n : Nat} {v : Value} {xs : List Value} (hg : w.grownBy w' v.ownBlock) (ho : w.ownsRow B 72 size v n xs) (hB : B ≤ w.heap.size) : RW B w w' := by
  refine ⟨Below.of_grown hg ho (Nat.le_refl _) hB, fun b cs t hne hb => (hg.block b (Blk.lt hb) (fun e => ?_)).trans hb⟩
  obtain ⟨_, ⟨rfl, _⟩ | ⟨g, cap, cur, rfl, _, hgg, _⟩⟩ := ho
  · simp [Value.ownBlock] at e
  · simp [Value.ownBlock] at e
    subst e
    have := (Eq.symm hb).trans hgg
    simp at this
    exact hne this.2
theorem keepW {l : List Oper} {p j s B k : Nat} {f : Fact} (h : Pre.condX .any l (p, [(j, s)]) k = true ∨ ∀ v w w', RW B w w' → f v w → f v w') : Pre.KeepsP .any l [(p, [(j, s)])] (fun _ => RW B) k f := by
  intro x hx; simp at hx; subst hx; exact h
theorem gok_app (w0 : World) (B : Nat) (hw : w0.heap.size = B) (l : List Oper) (p j s : Nat) : GOk l w0 [(p, [(j, s)])] (fun _ => RW B) (fun _ _ => Any) := by
  refine ⟨fun i w w' h => by rw [hw]; exact h.1, fun i j => Any.stable, fun p' j i hk hp hne x a b h hx => trivial, fun p' j hk => .inl rfl⟩
theorem prok_app {l : List Oper} {p j s B : Nat} {w3 : World} : Pre.PrOk .any l.toArray [(p, [(j, s)])] (fun _ => RW B) (fun _ w => Ext w3 w) :=
  ⟨fun _ _ _ _ he h => Ext.trans h he, fun p' q hp hq hne => by simp [pivB] at hp hq; exact absurd (hq.symm.trans hp) hne⟩
end Go.Proofs.YtjgdhlpnpihkdaaDoor
