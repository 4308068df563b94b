/- strings.Repeat of the byte 0. -/
import Derived.Test.YtmnpappbacndlaaGreatDoorBase
import Derived.Test.YtmnpappbacndlaaGreatDoorRep
set_option linter.unusedSimpArgs false
set_option linter.unusedVariables false
namespace Go.Proofs.YtmnpappbacndlaaGreatDoor
open Go.RowKit Dsd

theorem repeat_zeros (c : Nat) : Lib.repeatL [0] c = List.replicate c (0 : UInt8) := by
  induction c with
  | zero => rfl
  | succ c ih => rw [Lib.repeatL, ih]; rfl
theorem Repeat_zeros (c : Nat) (hc : c ≤ 1000000) (w : World) :
    Calls Tryz.prog 42 #[.string ⟨[0].toArray⟩, .int .i64 c] w fun e w' => e = .returned (.string ⟨(List.replicate c (0 : UInt8)).toArray⟩) ∧ Ext w w' := by
  match c with
  | 0 => exact (Tryz.strings_Repeat_zero _ w).mono fun e w' ⟨he, hw⟩ => ⟨he, by subst hw; exact Ext.refl _⟩
  | 1 => exact (Tryz.strings_Repeat_one _ w).mono fun e w' ⟨he, hw⟩ => ⟨he, by subst hw; exact Ext.refl _⟩
  | c + 2 =>
    refine (Tryz.strings_Repeat_main ⟨[0].toArray⟩ (c + 2) w (by omega) (by omega) (by simp [ByteArray.size]; omega) (by decide)).mono fun e w' ⟨he, hw⟩ => ⟨?_, hw⟩
    rw [he]
    have : (ByteArray.mk [0].toArray).data.toList = [0] := rfl
    rw [this, repeat_zeros]
end Go.Proofs.YtmnpappbacndlaaGreatDoor
