/- The walks of chapter 16's Valid, and of small functions of chapter 18. -/
import Derived.Test.YtmnpappbacndlaaGreatDoorRows
import Derived.Test.YtmnpappbacndlaaGreatDoorPB
set_option linter.unusedSimpArgs false
set_option linter.unusedVariables false
namespace Go.Proofs.YtmnpappbacndlaaGreatDoor
open Go.RowKit Dsd

theorem within_any (n lo hi : Int) (w : World) : Calls Tryz.prog 29 #[.int .i64 n, .int .i64 lo, .int .i64 hi] w fun e w' => e = .returned (.bool (decide (lo ≤ n) && decide (n ≤ hi))) ∧ w = w' := by
  go_enter Tryz.func29, Tryz.ntmps29
  go_wp2
  all_goals go_ret
  all_goals first | (simp [*]; done) | (simp [*]; omega)

/-- The validity as one fact. -/
def ValidP (d : DS) : Prop := 1 ≤ d.org ∧ d.org ≤ 3 ∧ (d.interval = 128 ∨ d.interval = 256 ∨ d.interval = 512) ∧ 1 ≤ d.length ∧ d.length ≤ 200 ∧ d.length ≤ d.interval - 7 ∧ d.format = 0 ∧ d.block = 0 ∧
  (d.org = 3 → d.length ≤ d.interval / 2 - 8 ∧ 0 ≤ d.keyAt ∧ 1 ≤ d.keyLength ∧ d.keyLength ≤ d.interval / 16 ∧ d.keyAt + d.keyLength ≤ d.length ∧ 2 ≤ d.area ∧ d.area ≤ 8 ∧ 0 ≤ d.freeInterval ∧ d.freeInterval ≤ 90 ∧ 0 ≤ d.freeArea ∧ d.freeArea ≤ d.area - 1) ∧
  (d.org ≠ 3 → d.keyAt = 0 ∧ d.keyLength = 0 ∧ d.area = 0 ∧ d.freeInterval = 0 ∧ d.freeArea = 0)
theorem valid_iff (d : DS) : validB d = true ↔ ValidP d := by
  unfold validB validK ValidP isSizeB
  by_cases h : d.org = 3
  · simp only [h, if_true]
    simp
    omega
  · simp only [h, if_false]
    simp
    omega
theorem valid_no {d : DS} (h : ¬ ValidP d) : false = validB d := by
  cases hb : validB d
  · rfl
  · exact absurd ((valid_iff d).1 hb) h
theorem valid_yes {d : DS} (h : ValidP d) : true = validB d := ((valid_iff d).2 h).symm
theorem valid_last {d : DS} {x y : Bool} (h1 : ValidP d → x = true ∧ y = true) (h2 : x = true → y = true → ValidP d) : (x && y) = validB d := by
  cases hv : validB d
  · cases x <;> cases y <;> first | rfl | (exact absurd ((valid_iff d).2 (h2 rfl rfl)) (by rw [hv]; simp))
  · obtain ⟨rfl, rfl⟩ := h1 ((valid_iff d).1 hv)
    rfl
theorem valid_ne {d : DS} (h3 : d.org ≠ 3) (h : (d.keyAt == 0) = false ∨ (d.keyLength == 0) = false ∨ (d.area == 0) = false ∨ (d.freeInterval == 0) = false ∨ (d.freeArea == 0) = false) : false = validB d := by
  refine valid_no fun k => ?_
  obtain ⟨a, b, c, e, f⟩ := k.2.2.2.2.2.2.2.2.2 h3
  rcases h with h | h | h | h | h
  · rw [a] at h; cases h
  · rw [b] at h; cases h
  · rw [c] at h; cases h
  · rw [e] at h; cases h
  · rw [f] at h; cases h
/-- What stands ahead of the organisation's own part. -/
def ValidH (d : DS) : Prop := 1 ≤ d.org ∧ d.org ≤ 3 ∧ (d.interval = 128 ∨ d.interval = 256 ∨ d.interval = 512) ∧ 1 ≤ d.length ∧ d.length ≤ 200 ∧ d.length ≤ d.interval - 7 ∧ d.format = 0 ∧ d.block = 0
theorem valid_ye {d : DS} (h3 : d.org ≠ 3) (h : ValidH d) (h1 : d.keyAt = 0) (h2 : d.keyLength = 0) (h4 : d.area = 0) (h5 : d.freeInterval = 0) : (d.freeArea == 0) = validB d := by
  cases hz : d.freeArea == 0
  · exact valid_ne h3 (.inr (.inr (.inr (.inr hz))))
  · simp at hz
    unfold ValidH at h
    exact valid_yes ⟨h.1, h.2.1, h.2.2.1, h.2.2.2.1, h.2.2.2.2.1, h.2.2.2.2.2.1, h.2.2.2.2.2.2.1, h.2.2.2.2.2.2.2, fun h => absurd h h3, fun _ => ⟨h1, h2, h4, h5, hz⟩⟩
theorem valid_np {d : DS} (h : (d.format != 0) = true ∨ (d.block != 0) = true) : false = validB d := by
  refine valid_no fun k => ?_
  obtain ⟨_, _, _, _, _, _, a, b, _⟩ := k
  rcases h with h | h
  · rw [a] at h; cases h
  · rw [b] at h; cases h
end Go.Proofs.YtmnpappbacndlaaGreatDoor
/- The walk of chapter 16's Valid (reference): intervals of 128 bytes. -/
namespace Go.Proofs.YtmnpappbacndlaaGreatDoor
open Go.RowKit Dsd










end Go.Proofs.YtmnpappbacndlaaGreatDoor
/- The walk of chapter 16's Valid (reference): intervals of 256 bytes. -/
namespace Go.Proofs.YtmnpappbacndlaaGreatDoor
open Go.RowKit Dsd










end Go.Proofs.YtmnpappbacndlaaGreatDoor
/- The walk of chapter 16's Valid (reference): intervals of 512 bytes. -/
namespace Go.Proofs.YtmnpappbacndlaaGreatDoor
open Go.RowKit Dsd










end Go.Proofs.YtmnpappbacndlaaGreatDoor
/- The walk of chapter 16's Valid (reference): any description. -/
namespace Go.Proofs.YtmnpappbacndlaaGreatDoor
open Go.RowKit Dsd





end Go.Proofs.YtmnpappbacndlaaGreatDoor
