/- Facts for regions that draw their order. -/
import Derived.Test.YtmnpappbacndlaaGreatDoorApp0
import Derived.Test.YtmnpappbacndlaaGreatDoorXH
set_option linter.unusedSimpArgs false
set_option linter.unusedVariables false
namespace Go.Proofs.YtmnpappbacndlaaGreatDoor
open Go.RowKit Dsd

/-- A row of one's own, behind a slice. -/
def RowF (E : TypeId) (B n : Nat) (xs : List Value) : Fact := fun x w => ∃ q c, x = .slice q n c ∧ w.ownsRow B E 1 (.slice q n c) n xs
theorem RowF.stable (E : TypeId) (B n : Nat) (xs : List Value) : (RowF E B n xs).stable := fun _ _ _ he ⟨q, c, h1, h2⟩ => ⟨q, c, h1, own_ext h2 he⟩
/-- A pair of something of which f is true, and a value. -/
def PairF (f : Fact) (v : Value) : Fact := fun x w => ∃ y, x = .tuple #[y, v] ∧ f y w
theorem PairF.stable {f : Fact} (hf : f.stable) (v : Value) : (PairF f v).stable := fun _ _ _ he ⟨y, h1, h2⟩ => ⟨y, h1, hf _ _ _ he h2⟩
def WrF (L : List (Int × List UInt8)) : Fact := fun x w => ∃ q c, x = .slice q L.length c ∧ Wrts w q L
theorem WrF.stable (L : List (Int × List UInt8)) : (WrF L).stable := fun _ _ _ he ⟨q, c, h1, h2⟩ => ⟨q, c, h1, h2.ext he⟩
/-- A variable of its own. -/
def PtrF (B : Nat) (o : Obj) : Fact := fun x w => ∃ b, x = .pointer (some ⟨b, 0, none⟩) ∧ Blk w b o ∧ B ≤ b
theorem PtrF.stable (B : Nat) (o : Obj) : (PtrF B o).stable := fun _ _ _ he ⟨b, h1, h2, h3⟩ => ⟨b, h1, he.blk _ _ h2, h3⟩
def IfcF (f : Fact) (t : TypeId) : Fact := fun x w => ∃ y, x = .iface t y ∧ f y w
theorem IfcF.stable {f : Fact} (hf : f.stable) (t : TypeId) : (IfcF f t).stable := fun _ _ _ he ⟨y, h1, h2⟩ => ⟨y, h1, hf _ _ _ he h2⟩

theorem Any.strong {K : Kills} {R : Nat → Rel} : Any.strong K R := fun _ _ _ _ _ _ h => h
/-- A variable of type t, that was made behind B's blocks, takes another value. -/
def TChg (B : Nat) (t : TypeId) : Rel := fun w w' => ∃ b cs, B ≤ b ∧ Blk w b (.cells cs t) ∧ Chg b w w'
theorem TChg.below {B : Nat} {t : TypeId} {w w' : World} (c : TChg B t w w') : Below B w w' := by
  obtain ⟨b, cs, hB, hb, hc⟩ := c
  exact ⟨hc.os, hc.tape, hc.output, by rw [hc.size]; have := Blk.lt hb; omega, fun k hk => hc.block k (by omega)⟩
theorem Blk.tchg {B b : Nat} {t t' : TypeId} {w w' : World} {cs : Array Value} (h : Blk w b (.cells cs t')) (hne : t' ≠ t) (c : TChg B t w w') : w'.heap[b]? = w.heap[b]? := by
  obtain ⟨b0, cs0, hB, hb0, hc⟩ := c
  refine hc.block b fun e => ?_
  subst e
  have := (Eq.symm h).trans hb0
  simp at this
  exact hne this.2
theorem Blk.tchg' {B b : Nat} {t t' : TypeId} {w w' : World} {cs : Array Value} (h : Blk w b (.cells cs t')) (hne : t' ≠ t) (c : TChg B t w w') : Blk w' b (.cells cs t') := (Blk.tchg h hne c).trans h
theorem Wrts.tchg {B : Nat} {t : TypeId} {w w' : World} {p : Option Addr} {L : List (Int × List UInt8)} (h : Wrts w p L) (hne : 57 ≠ t) (c : TChg B t w w') : Wrts w' p L := by
  rcases h with h | ⟨b, off, hp, ⟨hb, cs, hbk⟩, hc⟩
  · exact .inl h
  · have e := Blk.tchg hbk hne c
    exact .inr ⟨b, off, hp, ⟨Blk.lt (Blk.tchg' hbk hne c), cs, Blk.tchg' hbk hne c⟩, fun i hi => ⟨(World.cell?_of_block (a := ⟨b, _, none⟩) e).trans (hc i hi).1, (World.cell?_of_block (a := ⟨b, _, none⟩) e).trans (hc i hi).2⟩⟩
theorem own_tchg {B : Nat} {t : TypeId} {w w' : World} {base : Nat} {e : TypeId} {size : Nat} {v : Value} {n : Nat} {xs : List Value} (h : w.ownsRow base e size v n xs) (hne : e ≠ t) (c : TChg B t w w') : w'.ownsRow base e size v n xs := by
  refine ⟨h.1, ?_⟩
  rcases h.2 with hn | ⟨b, cap, cur, rfl, hb, hg, rest⟩
  · exact .inl hn
  · exact .inr ⟨b, cap, cur, rfl, hb, Blk.tchg' hg hne c, rest⟩
theorem WrF.strong (L : List (Int × List UInt8)) (K : Kills) (B : Nat) (t : TypeId) (hne : 57 ≠ t) : (WrF L).strong K (fun _ => TChg B t) := fun _ _ _ _ _ c ⟨q, cc, h1, h3⟩ => ⟨q, cc, h1, h3.tchg hne c⟩
theorem RowsF.strong (E : TypeId) (B0 size n : Nat) (xs : List Value) (K : Kills) (B : Nat) (t : TypeId) (hne : E ≠ t) : (RowsF E B0 size n xs).strong K (fun _ => TChg B t) := fun _ _ _ _ _ c ⟨q, cc, h1, h3⟩ => ⟨q, cc, h1, own_tchg h3 hne c⟩
theorem Fresh.strong (n cap : Nat) (cs : Array Value) (t' : TypeId) (K : Kills) (B : Nat) (t : TypeId) (hne : t' ≠ t) : (Fresh n cap (.cells cs t')).strong K (fun _ => TChg B t) := fun _ _ _ _ _ c ⟨b, h1, h2⟩ => ⟨b, h1, Blk.tchg' h2 hne c⟩
theorem IfcF.strong {f : Fact} {K : Kills} {R : Nat → Rel} (hf : f.strong K R) (t : TypeId) : (IfcF f t).strong K R := fun i hi _ _ _ c ⟨y, h1, h2⟩ => ⟨y, h1, hf i hi _ _ _ c h2⟩
theorem cells_blk {w : World} {b : Nat} {cs : Array Value} {t : TypeId} (h : Blk w b (.cells cs t)) : Cells w (some ⟨b, 0, none⟩) cs.toList :=
  .inr ⟨b, 0, rfl, Blk.lt h, fun i hi => Blk.val h (0 + i) _ (by simp at hi; simp [List.getD, hi])⟩
theorem own_chgT {w w' : World} {base : Nat} {e t : TypeId} {size : Nat} {v : Value} {n b : Nat} {xs : List Value} {cs : Array Value} (h : w.ownsRow base e size v n xs) (hne : e ≠ t) (hb : Blk w b (.cells cs t)) (c : Chg b w w') : w'.ownsRow base e size v n xs :=
  own_tchg (B := 0) h hne ⟨b, cs, Nat.zero_le _, hb, c⟩
end Go.Proofs.YtmnpappbacndlaaGreatDoor
