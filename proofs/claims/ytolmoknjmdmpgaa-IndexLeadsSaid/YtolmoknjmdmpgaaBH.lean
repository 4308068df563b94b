/- The walks of the reference's nodes: four, Front, IsNode. -/
import Derived.Test.YtolmoknjmdmpgaaAF
set_option linter.unusedSimpArgs false
set_option linter.unusedVariables false
namespace Dsd
/-- A number in four bytes. -/
def fourL (n : Nat) : List UInt8 := [UInt8.ofNat (n % 256), UInt8.ofNat (n / 256 % 256), UInt8.ofNat (n / 65536 % 256), UInt8.ofNat (n / 65536 / 256 % 256)]
/-- The entries of a node's form. -/
def formGo : List UInt8 → List Ent → List UInt8
  | _, [] => []
  | b, x :: L => [UInt8.ofNat (frontL b x.1), UInt8.ofNat (x.1.length - frontL b x.1)] ++ x.1.drop (frontL b x.1) ++ fourL x.2.toNat ++ formGo x.1 L
def formL (n : Nd) : List UInt8 := [UInt8.ofNat n.level.toNat] ++ fourL n.next.toNat ++ [UInt8.ofNat n.ents.length] ++ formGo [] n.ents
theorem formGo_len : ∀ (b : List UInt8) (L : List Ent), (formGo b L).length = entsN b L
  | _, [] => rfl
  | b, x :: L => by
    have := formGo_len x.1 L
    simp only [formGo, entsN, List.length_append, List.length_cons, List.length_nil, List.length_drop, fourL, this]
    omega
theorem formL_len (n : Nd) : (formL n).length = 6 + entsN [] n.ents := by
  unfold formL
  simp only [List.length_append, List.length_cons, List.length_nil, formGo_len, fourL]
end Dsd
namespace Go.Proofs.Ytolmoknjmdmpgaa
open Go.RowKit Dsd
end Go.Proofs.Ytolmoknjmdmpgaa
