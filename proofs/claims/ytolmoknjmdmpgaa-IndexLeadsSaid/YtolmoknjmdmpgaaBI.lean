/- The walks of the reference's nodes: form, Size, Valid; a node that can be an area's; at any node. -/
import Derived.Test.YtolmoknjmdmpgaaBH
import Derived.Test.YtolmoknjmdmpgaaAL
set_option linter.unusedSimpArgs false
set_option linter.unusedVariables false
namespace Dsd
theorem formGo_drop {L : List Ent} {k : Nat} {b : List UInt8} (h : k < L.length) : formGo b (L.drop k) = [UInt8.ofNat (frontL b (entAt L k).1), UInt8.ofNat ((entAt L k).1.length - frontL b (entAt L k).1)] ++ (entAt L k).1.drop (frontL b (entAt L k).1) ++ fourL (entAt L k).2.toNat ++ formGo (entAt L k).1 (L.drop (k + 1)) := by
  have e : entAt L k = L[k] := by simp [entAt, List.getD, h]
  rw [List.drop_eq_getElem_cons h, formGo, e]
theorem ents_small : ∀ {b : List UInt8} {L : List Ent}, entsB b L = true → ∀ k, k < L.length → 1 ≤ (entAt L k).2 ∧ (entAt L k).2 ≤ 16777216 ∧ (entAt L k).1.length ≤ 32
  | _, [], _, k, h => by simp at h
  | b, x :: L, he, k, h => by
    obtain ⟨h1, _, h3, _, h5⟩ := ents_cons he
    cases k with
    | zero =>
      unfold pageB at h1
      simp only [Bool.and_eq_true, decide_eq_true_eq] at h1
      exact ⟨h1.1, h1.2, h3⟩
    | succ k => exact ents_small h5 k (by simpa using h)
end Dsd
namespace Go.Proofs.Ytolmoknjmdmpgaa
open Go.RowKit Dsd
theorem conv1 (x : Nat) (hx : x < 256) (W : World) (b : Nat) (h : Blk W b (.cells #[.int .u8 (x : Int)] 5)) : (convert 117 9 (.slice (some ⟨b, 0, none⟩) 1 1)).run Try.prog W = .ok (.string ⟨[UInt8.ofNat x].toArray⟩) W := by
  refine run_bytes_string W _ _ 5 b 0 1 [UInt8.ofNat x] Try.underlying117 Try.underlying5 Try.underlying9 fun i hi => ?_
  have hi0 : i = 0 := by simpa using hi
  subst hi0
  have := Blk.val h 0 _ rfl
  rw [this]
  simp [byt, Nat.mod_eq_of_lt hx]
theorem conv2 (x y : Nat) (hx : x < 256) (hy : y < 256) (W : World) (b : Nat) (h : Blk W b (.cells #[.int .u8 (x : Int), .int .u8 (y : Int)] 5)) : (convert 117 9 (.slice (some ⟨b, 0, none⟩) 2 2)).run Try.prog W = .ok (.string ⟨[UInt8.ofNat x, UInt8.ofNat y].toArray⟩) W := by
  refine run_bytes_string W _ _ 5 b 0 2 [UInt8.ofNat x, UInt8.ofNat y] Try.underlying117 Try.underlying5 Try.underlying9 fun i hi => ?_
  have hi2 : i < 2 := by simpa using hi
  rcases (show i = 0 ∨ i = 1 by omega) with rfl | rfl
  · have := Blk.val h 0 _ rfl
    rw [this]
    simp [byt, Nat.mod_eq_of_lt hx]
  · have := Blk.val h 1 _ rfl
    rw [this]
    simp [byt, Nat.mod_eq_of_lt hy]
theorem entDescF : Try.prog.underlying 73 = some (.struct (Try.prog.fieldsOf 73)) := by kernel_rfl
end Go.Proofs.Ytolmoknjmdmpgaa
