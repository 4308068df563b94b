/- A part of the proof. -/
import Derived.Test.YtifmbcjbccedfaaGreatDoorDC

set_option linter.unusedSimpArgs false
set_option linter.unusedVariables false
namespace Go.Proofs.YtifmbcjbccedfaaGreatDoor
open Go.RowKit Dsd
end Go.Proofs.YtifmbcjbccedfaaGreatDoor
namespace Go.Proofs.YtifmbcjbccedfaaGreatDoor
open Go.RowKit Dsd
def quadN (a b c d : Nat) : Nat := a + 256 * b + 65536 * c + 16777216 * d
theorem numL_at {s : List UInt8} {a : Nat} (h : a + 4 ≤ s.length) : numL ((s.drop a).take 4) = quadN (byt s a) (byt s (a + 1)) (byt s (a + 2)) (byt s (a + 3)) := by
 have e : (s.drop a).take 4 = [s.getD a 0, s.getD (a + 1) 0, s.getD (a + 2) 0, s.getD (a + 3) 0] := by
   rw [List.drop_eq_getElem_cons (by omega), List.drop_eq_getElem_cons (by omega), List.drop_eq_getElem_cons (by omega), List.drop_eq_getElem_cons (by omega)]
   have g : ∀ k (hk : k < s.length), s.getD k 0 = s[k] := fun k hk => by simp [List.getD, hk]
   simp only [List.take_succ_cons, List.take_zero]
   rw [g a (by omega), g (a + 1) (by omega), g (a + 2) (by omega), g (a + 3) (by omega)]
 rw [e]
 simp only [numL, quadN, byt]
 omega
theorem quad_gen (k1 k2 k3 a b c d : Int) (ha : 0 ≤ a ∧ a < 4294967296) (hb : 0 ≤ b ∧ b < 4294967296) (hc : 0 ≤ c ∧ c < 4294967296) (hd : 0 ≤ d ∧ d < 4294967296) (h1 : 0 ≤ k1 * b ∧ k1 * b < 4294967296) (h2 : 0 ≤ k2 * c ∧ k2 * c < 4294967296) (h3 : 0 ≤ k3 * d ∧ k3 * d < 4294967296) :
   wrap64 (wrap64 (wrap64 (wrap64 a + wrap64 (k1 * wrap64 b)) + wrap64 (k2 * wrap64 c)) + wrap64 (k3 * wrap64 d)) = a + k1 * b + k2 * c + k3 * d := by
 rw [IntWalk.wrap64_in a (by omega), IntWalk.wrap64_in b (by omega), IntWalk.wrap64_in c (by omega), IntWalk.wrap64_in d (by omega)]
 generalize k1 * b = x at *
 generalize k2 * c = y at *
 generalize k3 * d = z at *
 rw [IntWalk.wrap64_in x (by omega), IntWalk.wrap64_in y (by omega), IntWalk.wrap64_in z (by omega)]
 rw [IntWalk.wrap64_in (a + x) (by omega), IntWalk.wrap64_in (a + x + y) (by omega), IntWalk.wrap64_in (a + x + y + z) (by omega)]
theorem quad_wraps {a b c d : Nat} (ha : a < 256) (hb : b < 256) (hc : c < 256) (hd : d < 256) :
   wrap64 (wrap64 (wrap64 (wrap64 (a : Int) + wrap64 (256 * wrap64 (b : Int))) + wrap64 (65536 * wrap64 (c : Int))) + wrap64 (16777216 * wrap64 (d : Int))) = ((quadN a b c d : Nat) : Int) :=
 (quad_gen 256 65536 16777216 a b c d (by omega) (by omega) (by omega) (by omega) (by omega) (by omega) (by omega)).trans (by unfold quadN; omega)
set_option maxRecDepth 100000 in
theorem numberR_any (s : List UInt8) (a : Nat) (h : a + 4 ≤ s.length) (hl : s.length ≤ 1000000) (w : World) :
   Calls Tryz.prog 76 #[.string ⟨s.toArray⟩, .int .i64 a] w fun e w' => e = .returned (.int .i64 (numL ((s.drop a).take 4) : Nat)) ∧ Ext w w' := by
 rw [numL_at h]
 have HV := Lib.hid (quad_wraps (byt_lt s a) (byt_lt s (a + 1)) (byt_lt s (a + 2)) (byt_lt s (a + 3)))
 have h0 : (a : Int) < s.length := by omega
 have h1 : (a : Int) + 1 < s.length := by omega
 have h2 : (a : Int) + 2 < s.length := by omega
 have h3 : (a : Int) + 3 < s.length := by omega
 generalize quadN (byt s a) (byt s (a + 1)) (byt s (a + 2)) (byt s (a + 3)) = sum at *
 go_enter Tryz.func76, Tryz.ntmps76
 go_upto_region 1 with (fail)
 go_quiet (fail)
 rw [HV.out]
 go_wp2
 go_ret
 refine ⟨rfl, ?_⟩
 first
   | exact Ext.drewN _ _
   | exact Ext.drew _
   | exact Ext.refl _
end Go.Proofs.YtifmbcjbccedfaaGreatDoor
