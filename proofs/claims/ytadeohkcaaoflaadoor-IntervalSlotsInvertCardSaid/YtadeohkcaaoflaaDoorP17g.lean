/- Plain words of chapter 17: the slots that an interval is read as. -/
import Derived.Test.YtadeohkcaaoflaaDoorP17f
namespace Dsd

/-- The slot at a place. -/
def dsSlot (n len : Nat) (d : List UInt8) (i : Nat) : Bool × List UInt8 := if byt d (n - 7 - 3 * i) = 0 then (true, (d.drop (i * len)).take len) else (false, [])
/-- The first k slots. -/
def dsList (n len : Nat) (d : List UInt8) (k : Nat) : List (Bool × List UInt8) := (List.range k).map (dsSlot n len d)
theorem dsList_succ (n len : Nat) (d : List UInt8) (k : Nat) : dsList n len d (k + 1) = dsList n len d k ++ [dsSlot n len d k] := by simp [dsList, List.range_succ]
theorem length_dsList (n len : Nat) (d : List UInt8) (k : Nat) : (dsList n len d k).length = k := by simp [dsList]
/-- The cells of slots. -/
def slotCells (L : List (Bool × List UInt8)) : List Go.Value := L.flatMap fun x => [.bool x.1, .string ⟨x.2.toArray⟩]
theorem slotCells_snoc (L : List (Bool × List UInt8)) (x : Bool × List UInt8) : slotCells (L ++ [x]) = slotCells L ++ [.bool x.1, .string ⟨x.2.toArray⟩] := by simp [slotCells]
theorem length_slotCells (L : List (Bool × List UInt8)) : (slotCells L).length = 2 * L.length := by
  induction L with
  | nil => rfl
  | cons x L ih => simp [slotCells] at ih ⊢; omega
theorem slotCells_at (L : List (Bool × List UInt8)) (i : Nat) (h : i < L.length) : (slotCells L)[i * 2]? = some (.bool (L.getD i (false, [])).1) ∧ (slotCells L)[i * 2 + 1]? = some (.string ⟨(L.getD i (false, [])).2.toArray⟩) := by
  induction L generalizing i with
  | nil => simp at h
  | cons x L ih =>
    have e : slotCells (x :: L) = .bool x.1 :: .string ⟨x.2.toArray⟩ :: slotCells L := by simp [slotCells]
    rw [e]
    cases i with
    | zero => simp [List.getD]
    | succ i =>
      obtain ⟨a, b⟩ := ih i (by simpa using h)
      have e2 : (i + 1) * 2 = i * 2 + 2 := by omega
      rw [e2]
      simp only [List.getElem?_cons_succ, List.getD_cons_succ]
      exact ⟨a, b⟩
end Dsd
