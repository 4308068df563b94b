/- The bases below a page: what the program's walk yields, what the reference counts. No program in sight. -/
import Derived.Test.YtolmoknjmdmpgaaGreatFA
set_option linter.unusedSimpArgs false
set_option linter.unusedVariables false
namespace Dsd
def walkGo (f : Int → List Int × Int) : List Ent → List Int × Int
  | [] => ([], 0)
  | x :: L => if (f x.2).2 ≠ 0 then f x.2 else ((f x.2).1 ++ (walkGo f L).1, (walkGo f L).2)
/-- What the walk yields below a page, and the error that ends it. -/
def walkD (M : List (List UInt8)) (d : DS) : Nat → Int → List Int × Int
  | 0, page => ([page], 0)
  | l + 1, page => if (loadD M d page ((l + 1 : Nat) : Int)).2 ≠ 0 then ([], (loadD M d page ((l + 1 : Nat) : Int)).2) else walkGo (walkD M d l) (loadD M d page ((l + 1 : Nat) : Int)).1.ents
def belowGo (f : Int → Int → List Int × Int) (most : Int) : List Int → List Ent → List Int × Int
  | out, [] => (out, 0)
  | out, x :: L => if (f x.2 (most - (out.length : Int))).2 ≠ 0 then ([], (f x.2 (most - (out.length : Int))).2)
      else if most < ((out ++ (f x.2 (most - (out.length : Int))).1).length : Int) then ([], 8)
      else belowGo f most (out ++ (f x.2 (most - (out.length : Int))).1) L
/-- What the reference counts, at most so many. -/
def belowD (M : List (List UInt8)) (d : DS) : Nat → Int → Int → List Int × Int
  | 0, page, _ => ([page], 0)
  | l + 1, page, most => if (loadD M d page ((l + 1 : Nat) : Int)).2 ≠ 0 then ([], (loadD M d page ((l + 1 : Nat) : Int)).2) else belowGo (belowD M d l) most [] (loadD M d page ((l + 1 : Nat) : Int)).1.ents
/-- The reference's answer tells the walk's. -/
def Agrees (f : Int → List Int × Int) (g : Int → Int → List Int × Int) : Prop :=
  ∀ page most, 0 ≤ most → (g page most).2 ≠ 8 → ((g page most).2 = 0 → f page = ((g page most).1, 0)) ∧ ((g page most).2 ≠ 0 → (f page).2 = (g page most).2 ∧ ((f page).1.length : Int) ≤ most)
theorem go_agrees {f : Int → List Int × Int} {g : Int → Int → List Int × Int} (h : Agrees f g) {most : Int} : ∀ (L : List Ent) (out : List Int), (out.length : Int) ≤ most → (belowGo g most out L).2 ≠ 8 →
    ((belowGo g most out L).2 = 0 → (walkGo f L).2 = 0 ∧ out ++ (walkGo f L).1 = (belowGo g most out L).1) ∧ ((belowGo g most out L).2 ≠ 0 → (walkGo f L).2 = (belowGo g most out L).2 ∧ (out.length : Int) + ((walkGo f L).1.length : Int) ≤ most)
  | [], out, ho, h8 => ⟨fun _ => ⟨rfl, by simp [walkGo, belowGo]⟩, fun h0 => absurd rfl h0⟩
  | x :: L, out, ho, h8 => by
    have hx := h x.2 (most - (out.length : Int)) (by omega)
    unfold belowGo at h8 ⊢
    by_cases h1 : (g x.2 (most - (out.length : Int))).2 ≠ 0
    · rw [if_pos h1] at h8 ⊢
      obtain ⟨a1, a2⟩ := (hx h8).2 h1
      refine ⟨fun h0 => absurd h0 h1, fun _ => ?_⟩
      unfold walkGo
      rw [if_pos (by rw [a1]; exact h1)]
      exact ⟨a1, by omega⟩
    · have h1 : (g x.2 (most - (out.length : Int))).2 = 0 := Classical.byContradiction h1
      rw [if_neg (by rw [h1]; simp)] at h8 ⊢
      have a1 := (hx (by rw [h1]; decide)).1 h1
      have e1 : (f x.2).2 = 0 := by rw [a1]
      have e2 : (f x.2).1 = (g x.2 (most - (out.length : Int))).1 := by rw [a1]
      by_cases h2 : most < ((out ++ (g x.2 (most - (out.length : Int))).1).length : Int)
      · rw [if_pos h2] at h8
        exact absurd rfl h8
      · rw [if_neg h2] at h8 ⊢
        have ih := go_agrees h L (out ++ (g x.2 (most - (out.length : Int))).1) (by omega) h8
        have ew : walkGo f (x :: L) = ((g x.2 (most - (out.length : Int))).1 ++ (walkGo f L).1, (walkGo f L).2) := by
          rw [walkGo, if_neg (by rw [e1]; simp), e2]
        rw [ew]
        refine ⟨fun h0 => ?_, fun h0 => ?_⟩
        · obtain ⟨b1, b2⟩ := ih.1 h0
          exact ⟨b1, by rw [← b2]; simp⟩
        · obtain ⟨b1, b2⟩ := ih.2 h0
          refine ⟨b1, ?_⟩
          simp only [List.length_append] at b2 ⊢
          omega
theorem below_agrees (M : List (List UInt8)) (d : DS) : ∀ l, Agrees (walkD M d l) (belowD M d l)
  | 0, page, most, h0, h8 => ⟨fun _ => rfl, fun h => absurd rfl h⟩
  | l + 1, page, most, h0, h8 => by
    unfold belowD at h8 ⊢
    unfold walkD
    by_cases h1 : (loadD M d page ((l + 1 : Nat) : Int)).2 ≠ 0
    · rw [if_pos h1] at h8 ⊢
      rw [if_pos h1]
      exact ⟨fun h => absurd h h1, fun _ => ⟨rfl, by simpa using h0⟩⟩
    · rw [if_neg h1] at h8 ⊢
      rw [if_neg h1]
      have k := go_agrees (below_agrees M d l) (most := most) (loadD M d page ((l + 1 : Nat) : Int)).1.ents [] (by simpa using h0) h8
      refine ⟨fun h => ?_, fun h => ?_⟩
      · obtain ⟨b1, b2⟩ := k.1 h
        rw [List.nil_append] at b2
        exact Prod.ext b2 b1
      · obtain ⟨b1, b2⟩ := k.2 h
        exact ⟨b1, by simpa using b2⟩
/-- The bases of a tree, and the error. -/
def basesE (M : List (List UInt8)) (h : Hd) (d : DS) : Int := if door22 h d ≠ 0 then 1 else (belowD M d h.height.toNat h.root 4096).2
def basesL (M : List (List UInt8)) (h : Hd) (d : DS) : List Int := if door22 h d ≠ 0 then [] else (belowD M d h.height.toNat h.root 4096).1
end Dsd
