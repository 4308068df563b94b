/- The walk of slices.Chunk, as an iterator. -/
import Derived.Test.YtmnpappbacndlaaGreatDoorSC
import Derived.Test.YtmnpappbacndlaaGreatDoorRK
set_option linter.unusedSimpArgs false
set_option linter.unusedVariables false
namespace Dsd
open Go Go.RowKit
theorem Kc.of_grownB {n0 : Nat} {tc : Nat → TypeId → Prop} {A B : World} {base : Nat} {e : TypeId} {size : Nat} {v : Value} {n : Nat} {xs : List Value} (hg : A.grownBy B v.ownBlock) (ho : A.ownsRow base e size v n xs) (hn : n0 ≤ base) (hb : base ≤ A.heap.size) (ht : ∀ b, base ≤ b → tc b e) : Kc n0 tc A B := by
  refine ⟨Below.of_grown hg ho hn hb, fun b cs t f hnt hb' => (hg.block b (Array.getElem?_eq_some_iff.1 hb').1 (fun e => ?_)).trans hb'⟩
  obtain ⟨_, ⟨rfl, _⟩ | ⟨g, cap, cur, rfl, hbg, hgg, _⟩⟩ := ho
  · simp [Value.ownBlock] at e
  · simp [Value.ownBlock] at e
    subst e
    have := hgg.symm.trans hb'
    simp at this
    obtain ⟨rfl, rfl, rfl⟩ := this
    exact hnt (ht _ hbg)
/-- The k-th list of 64 of a row. -/
def chV (q : Option Addr) (n k : Nat) : Value := .slice (q.map fun a => ⟨a.block, a.off + k * 64 * 2, none⟩) (min 64 (n - k * 64)) (min 64 (n - k * 64))
def encC (q : Option Addr) (n : Nat) (k : Nat) : Array Value := #[chV q n k]
end Dsd
namespace Go.Proofs.YtmnpappbacndlaaGreatDoor
open Go.RowKit Dsd
set_option maxRecDepth 100000 in
theorem Chunk_any (q : Option Addr) (c n : Nat) (w : World) : Calls Tryz.prog 9 #[.slice q n c, .int .i64 64] w fun e w' => Ext w w' ∧ ∃ b0 b1, e = .returned (.func (.func 16) #[] #[.pointer (some ⟨b0, 0, none⟩), .pointer (some ⟨b1, 0, none⟩)]) ∧ Blk w' b0 (.cells #[.slice q n c] 22) ∧ Blk w' b1 (.cells #[.int .i64 64] 3) ∧ w.heap.size ≤ b0 ∧ w.heap.size ≤ b1 := by
  have k0 := Blk.new w (.cells #[.slice q n c] 22)
  have x0 := Ext.alloc w (.cells #[.slice q n c] 22)
  have k1 := Blk.new (w.alloc (.cells #[.slice q n c] 22)) (.cells #[.int .i64 64] 3)
  have x1 := Ext.alloc (w.alloc (.cells #[.slice q n c] 22)) (.cells #[.int .i64 64] 3)
  have HB := Lib.hid (And.intro (x0.trans x1) (And.intro (x1.blk _ _ k0) k1))
  clear k0 x0 k1 x1
  go_enter Tryz.func9, Tryz.ntmps9
  go_wp2
  go_ret
  exact ⟨HB.out.1, _, _, rfl, HB.out.2.1, by simpa using HB.out.2.2, by simp, by simp⟩
attribute [local go_sem] Oper.semAt_some
set_option maxRecDepth 100000 in
set_option maxHeartbeats 4000000 in
theorem chunk_iter (q : Option Addr) (c n b0 b1 n0 : Nat) (w : World) (hq : 0 < n → ∃ g o, q = some ⟨g, o, none⟩) (hnc : n ≤ c) (hn : n ≤ 400) (h0 : Blk w b0 (.cells #[.slice q n c] 22)) (h1 : Blk w b1 (.cells #[.int .i64 64] 3)) (hn0 : n0 ≤ w.heap.size) (tB : Nat → TypeId → Prop) (hB0 : ¬ tB b0 22) (hB1 : ¬ tB b1 3) :
    IterAt Tryz.prog 16 #[.pointer (some ⟨b0, 0, none⟩), .pointer (some ⟨b1, 0, none⟩)] (encC q n) n0 (fun _ _ => False) tB (fun xs _ => ∃ K, xs = List.range K ∧ n ≤ K * 64 ∧ (K = 0 ∨ (K - 1) * 64 < n)) (fun _ _ => True) (fun pre x => x = pre.length ∧ pre = List.range pre.length ∧ pre.length * 64 < n) w := by
  intro l J Jx W hx hJ hJx hY hj0
  have i0 := hx.blk _ _ h0
  have i1 := hx.blk _ _ h1
  have hnW : n0 ≤ W.heap.size := Nat.le_trans hn0 hx.size
  have HY := Lib.hid hY
  have HJ := Lib.hid hJ
  have HB := Lib.hid (And.intro hB0 hB1)
  have HI := Lib.hid (And.intro i0 (And.intro i1 hj0))
  clear h0 h1 hJ hJx hY hB0 hB1 i0 i1 hj0
  show Calls Tryz.prog 16 #[.func (.yield l) #[] #[], .pointer (some ⟨b0, 0, none⟩), .pointer (some ⟨b1, 0, none⟩)] W _
  go_enter Tryz.func16, Tryz.ntmps16
  go_wp2_with fail
  go_loopw [4] (fun i wr => ∃ K : Nat, i = .int .i64 ((K * 64 : Nat) : Int) ∧ (K = 0 ∨ (K - 1) * 64 < n) ∧ Kc n0 tB W wr ∧ J (List.range K) wr) (fun i _ => n + 64 - (intOf i).toNat)
  case atStart => exact ⟨0, rfl, .inl rfl, Kc.refl _ _ _, HI.out.2.2⟩
  case round =>
    obtain ⟨K, rfl, hK, hk, hj⟩ := hrel
    have b0' := hk.blk HI.out.1 HB.out.1
    have b1' := hk.blk HI.out.2.1 HB.out.2
    have c0 : wr.cell? ⟨b0, 0, none⟩ = some (.slice q n c) := Blk.val b0' 0 _ rfl
    have c1 : wr.cell? ⟨b1, 0, none⟩ = some (.int .i64 64) := Blk.val b1' 0 _ rfl
    have l0 := Blk.lt b0'
    have l1 := Blk.lt b1'
    have HKc := Lib.hid hk
    have Hj := Lib.hid hj
    clear hk hj b0' b1'
    by_cases hlt : K * 64 < n
    · obtain ⟨g, o, rfl⟩ := hq (by omega)
      have hYK := HY.out (List.range K) K
      have hchv : encC (some ⟨g, o, none⟩) n K = #[.slice (some ⟨g, o + K * 64 * 2, none⟩) (min 64 (n - K * 64)) (min 64 (n - K * 64))] := rfl
      rw [hchv] at hYK
      clear hchv
      have HR : Hid (List.range K ++ [K] = List.range (K + 1)) := Lib.hid List.range_succ.symm
      obtain ⟨m0, hm0⟩ : ∃ m0, m0 = min 64 (n - K * 64) := ⟨_, rfl⟩
      rw [← hm0] at hYK
      have HYK := Lib.hid hYK
      have HKlt := Lib.hid hlt
      have hK1 := Lib.hid hK
      clear hYK hq hK
      have hKI : (K + 1) * 64 = K * 64 + 64 := by omega
      have HKI := Lib.hid hKI
      clear hKI
      generalize hI : K * 64 = I at *
      have HIe := Lib.hid hI
      clear hI
      have hm1 : 0 < m0 := by omega
      have hm2 : m0 ≤ n - I := by omega
      have hmn1 : (if ((n - I : Nat) : Int) < 64 then ((n - I : Nat) : Int) else (64 : Int)) = (m0 : Int) := by split <;> omega
      have hmn2 : (if (64 : Int) < ((n - I : Nat) : Int) then (64 : Int) else ((n - I : Nat) : Int)) = (m0 : Int) := by split <;> omega
      have hcI : ¬ c = I := by omega
      have hIn : I ≤ n := by omega
      have hltI : (I : Int) < (n : Int) := by omega
      clear hm0
      go_upto_region 3 with (fail)
      refine wp_region_mk 200 (Ext.refl wr) (by kernel_rfl) (by kernel_rfl) (by kernel_rfl) ?_
      simp only [List.take_succ_cons, List.take_zero, List.take_nil, List.drop_succ_cons, List.drop_zero, List.drop_nil, List.map_cons, List.map_nil]
      repeat (first
        | (refine wpML_det (o := ⟨some 16, _, _, _, _, _⟩) (v := .slice (some ⟨g, o + I * 2, none⟩) (n - I) (c - I)) rfl ?_ ?_
           · intro a w' he hr K hK
             simp [Reads, Oper.looksAt, Op.operands, Call.operands, factAt, Is] at hr
             have hx := he.cell
             go_simp
             all_goals exact hK _ (Ext.refl _)
           simp only [setL, List.set_cons_succ, List.set_cons_zero])
        | (refine wpML_move _ _ rfl (by first | exact .inl rfl | exact .inr rfl) rfl (by first | exact Is.stable _ | exact AppF.stable _ | exact WrF.stable _ | exact PtrF.stable _ _ | exact IfcF.stable (Fresh.stable _ _ _) _ | exact PairF.stable (RowF.stable _ _ _ _) _ | exact RowF.stable _ _ _ _ | exact Fresh.stable _ _ _) ?_
           simp only [setL, List.set_cons_succ, List.set_cons_zero, List.getD_cons_succ, List.getD_cons_zero])
        | (refine wpML_moveC _ rfl (by first | exact .inl rfl | exact .inr rfl) ?_
           simp only [setL, List.set_cons_succ, List.set_cons_zero])
        | (apply wpML_det rfl
           · intro a w' he hr K hK
             simp [Reads, Oper.looksAt, Op.operands, Call.operands, factAt, Is] at hr
             have hx := he.cell
             go_simp
             try go_bits
             try (rw [if_neg (by omega)]; go_simp)
             first
               | exact hK _ (Ext.refl _)
           simp only [setL, List.set_cons_succ, List.set_cons_zero])
        | (apply wpML_det rfl
           · intro a w' he hr K hK
             simp [Reads, Oper.looksAt, Op.operands, Call.operands, factAt, Fresh] at hr
             obtain ⟨b, hr1, hr2⟩ := hr
             go_simp
             exact hK _ (Ext.refl _)
           simp only [setL, List.set_cons_succ, List.set_cons_zero]))
      intro w2 he2
      repeat (first | with_reducible refine rest_is _ _ _ _ ?_ | (with_reducible refine rest_fact _ _ _ _ ?_; intro _ _) | with_reducible refine rest_end _ _ ?_)
      simp only [List.reverse_cons, List.reverse_nil, List.nil_append, List.cons_append]
      have c0 : w2.cell? ⟨b0, 0, none⟩ = some (.slice (some ⟨g, o, none⟩) n c) := (he2.cell _ _ l0).trans c0
      have l0 : b0 < w2.heap.size := Nat.lt_of_lt_of_le l0 he2.size
      have c1 : w2.cell? ⟨b1, 0, none⟩ = some (.int .i64 64) := (he2.cell _ _ l1).trans c1
      have l1 : b1 < w2.heap.size := Nat.lt_of_lt_of_le l1 he2.size
      have hz2 : n0 ≤ wr.heap.size := by have := HKc.out.below.size; omega
      have HKc2 := Lib.hid (HKc.out.trans (Kc.of_ext (tc := tB) he2 hz2))
      have hY2 := HYK.out w2 (HJ.out _ wr w2 (Kc.of_ext he2 hz2) (KeepsFrom.of_ext he2) Hj.out) ⟨by simp, by simp, by simpa [HIe.out] using HKlt.out⟩
      obtain ⟨fn, tmps, assign, body, hy, hR⟩ := hY2
      have hImn : I + m0 ≤ n := by omega
      have hImc : I + m0 ≤ c := by omega
      have hIm4 : I + m0 ≤ 400 := by omega
      have hI0 : ¬ I + m0 = I := by omega
      clear HYK hmn1 hmn2 he2 Hj hz2 HKc hnc hn0
      go_upto_region 4 with (fail)
      refine (wpIn_wide (n := 3)).1 ?_
      gi_wp2
      refine hR.mono ?_
      rintro e W' (⟨rfl, hj', hk'⟩ | ⟨rfl, hjx'⟩)
      · have b1' := (HKc2.out.trans hk').blk HI.out.2.1 HB.out.2
        have c1 : W'.cell? ⟨b1, 0, none⟩ = some (.int .i64 64) := Blk.val b1' 0 _ rfl
        have l1 := Blk.lt b1'
        have HO := Lib.hid (And.intro (HKc2.out.trans hk') hj')
        clear hj' hk' hy hR b1' c0 l0
        gi_wp2
        go_wp2_with fail
        refine ⟨⟨K + 1, by rw [HKI.out]; go_num, .inr (by rw [Nat.add_sub_cancel, HIe.out]; omega), HO.out.1, by rw [← HR.out]; exact HO.out.2⟩, by simp [intOf]; omega⟩
      · have HO := Lib.hid hjx'
        clear hjx' hy hR c0 l0 c1 l1
        gi_wp2
        go_wp2_with fail
        refine bodyPost_ret (results_none (by kernel_rfl) _ _ _) rfl ?_
        exact ⟨⟨_, rfl⟩, .inr ⟨_, trivial, HO.out⟩⟩
    · have hltI : decide (((K * 64 : Nat) : Int) < (n : Int)) = false := decide_eq_false (by omega)
      have hle : n ≤ K * 64 := by omega
      have HS := Lib.hid (And.intro hle hK)
      clear hle hK hq
      generalize hI : K * 64 = I at *
      have HIe := Lib.hid hI
      clear hI
      go_wp2_with fail
      go_end0
      exact ⟨⟨_, rfl⟩, .inl ⟨List.range K, ⟨K, rfl, by rw [HIe.out]; exact HS.out.1, HS.out.2⟩, Hj.out⟩⟩
end Go.Proofs.YtmnpappbacndlaaGreatDoor
