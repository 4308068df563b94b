/- Rows of sector writes: compared, copied. -/
import Derived.Test.YtmnpappbacndlaaGreatDoorSA
import Derived.Test.YtmnpappbacndlaaGreatDoorXH
set_option linter.unusedSimpArgs false
set_option linter.unusedVariables false
namespace Dsd
open Go Go.RowKit
theorem swc_at {w : World} {p : Option Addr} {L : List SW} (h : Cells w p (swC L)) (k : Nat) (hk : k < L.length) : ∃ b off, p = some ⟨b, off, none⟩ ∧ b < w.heap.size ∧ ∀ i, i < L.length → w.cell? ⟨b, off + i * 2, none⟩ = some (.int .i64 (swAt L i).1) ∧ w.cell? ⟨b, off + i * 2 + 1, none⟩ = some (.string ⟨(swAt L i).2.toArray⟩) := by
  rcases h with h | ⟨b, off, hp, hb, hc⟩
  · have := swC_len L
    rw [h] at this
    simp at this; omega
  · refine ⟨b, off, hp, hb, fun i hi => ?_⟩
    obtain ⟨h1, h2⟩ := swC_at L i hi
    have hl := swC_len L
    have k1 := hc (i * 2) (by omega)
    have k2 := hc (i * 2 + 1) (by omega)
    simp only [List.getD, h1, h2, Option.getD_some] at k1 k2
    exact ⟨k1, k2⟩
end Dsd
namespace Go.Proofs.YtmnpappbacndlaaGreatDoor
open Go.RowKit Dsd
theorem swFields : (Tryz.prog.fieldsOf 25).toList.map (fun f => (f.name, f.type, f.offset)) = [("Sector", 3, 0), ("Data", 9, 1)] := by kernel_rfl
theorem swHeld : Tryz.prog.stoodInHeld 25 = false := by kernel_rfl
theorem swGuard : Tryz.prog.eqGuardType Tryz.prog.depth 25 = false := by kernel_rfl
theorem swDesc : Tryz.prog.underlying 25 = some (.struct (Tryz.prog.fieldsOf 25)) := by kernel_rfl
theorem swSize : (Tryz.prog.info? 25).map (·.size) = some 2 := by kernel_rfl
theorem infoSW : (Tryz.prog.info? 25).map (fun i => (i.zero, i.size, i.bytes)) = some (some (.agg #[.int .i64 0, .string ByteArray.empty]), 2, 24) := by kernel_rfl
theorem infoSWs : (Tryz.prog.info? 22).map (fun i => (i.zero, i.size, i.bytes)) = some (some (.slice none 0 0), 1, 24) := by kernel_rfl
theorem sw_equal (u u' : Int) (x x' : List UInt8) (W : World) : (Op.equalIn 10000 25 (.agg #[.int .i64 u, .string ⟨x.toArray⟩]) (.agg #[.int .i64 u', .string ⟨x'.toArray⟩])).run Tryz.prog W = .ok ((u, x) == (u', x')) W := by
  rw [run_equalIn_agg W 9999 25 _ _ swDesc swHeld]
  have h := swFields
  generalize (Tryz.prog.fieldsOf 25).toList = fs at *
  have hl : fs.length = 2 := by simpa using congrArg List.length h
  obtain ⟨f, g, rfl⟩ : ∃ f g, fs = [f, g] := by
    cases fs with
    | nil => simp at hl
    | cons f fs =>
      cases fs with
      | nil => simp at hl
      | cons g fs =>
        cases fs with
        | nil => exact ⟨f, g, rfl⟩
        | cons _ _ => simp at hl
  simp at h
  obtain ⟨⟨a1, a2, a3⟩, b1, b2, b3⟩ := h
  simp [Op.eqFields, a1, a2, a3, b1, b2, b3, go_sem]
  by_cases h1 : u = u'
  · by_cases h2 : x = x'
    · simp [h1, h2]
    · simp [h1, h2]
  · simp [h1]
set_option maxRecDepth 100000 in
theorem Same28_any (p q : Option Addr) (cap n cap' n' : Nat) (A B : List (Int × List UInt8)) (w : World) (hA : Cells w p (swC A)) (hB : Cells w q (swC B)) (hn : A.length = n) (hn' : B.length = n') (hLA : A.length ≤ 1000000) (hLB : B.length ≤ 1000000) :
    Calls Tryz.prog 7 #[.slice p n cap, .slice q n' cap'] w fun e w' => e = .returned (.bool (A == B)) ∧ ∃ n, w' = w.drewN n := by
  subst hn hn'
  by_cases hne : A.length = B.length
  · have hneI : ((A.length : Int) != (B.length : Int)) = false := by simp [hne]
    have Hne := Lib.hid hne
    clear hne
    go_enter Tryz.func7, Tryz.ntmps7
    go_wp2
    obtain ⟨wo, rfl⟩ : ∃ wo : World, wo = w := ⟨_, rfl⟩
    go_loopw [5] (fun i wr => ∃ k : Nat, k ≤ A.length ∧ i = .int .i64 k ∧ A.take k = B.take k ∧ ∃ n, wr = wo.drewN n) (fun i _ => A.length - (intOf i).toNat)
    case atStart => exact ⟨0, Nat.zero_le _, rfl, by simp, 0, rfl⟩
    case round =>
      obtain ⟨k, hk, rfl, hq, nr, rfl⟩ := hrel
      by_cases hlt : k < A.length
      · have hlt' : k < B.length := by rw [← Hne.out]; exact hlt
        have hltI : (k : Int) < A.length := by omega
        have hltI' : (k : Int) < B.length := by omega
        obtain ⟨b, off, rfl, hb, hc⟩ := swc_at hA k hlt
        obtain ⟨b', off', rfl, hb', hc'⟩ := swc_at hB k hlt'
        obtain ⟨hck, hck2⟩ := hc k hlt
        obtain ⟨hck', hck2'⟩ := hc' k hlt'
        have HS : Hid (swAt A k = swAt B k → A.take (k + 1) = B.take (k + 1)) := Lib.hid (take_snocX (0, []) A B k hlt hlt' hq)
        have HN : Hid (¬ swAt A k = swAt B k → (A == B) = false) := Lib.hid (fun h => by simp; intro h'; subst h'; exact h rfl)
        clear hc hc' hA hB hq
        generalize swAt A k = s at *
        generalize swAt B k = s' at *
        obtain ⟨u, x⟩ := s
        obtain ⟨u', x'⟩ := s'
        simp only at hck hck2 hck' hck2'
        have hE := sw_equal u u' x x'
        have hG := swGuard
        go_wp2
        go_quiet (fail)
        go_wp2
        · have hd : ¬ (u, x) = (u', x') := by rename_i h; simpa using h
          go_ret
          exact ⟨ret_bool (HN.out hd).symm, nr + nq, World.drewN_drewN _ _ _⟩
        · have hd : (u, x) = (u', x') := by rename_i h; simpa using h
          go_roundw
          case rel => exact ⟨k + 1, by omega, by go_num, HS.out hd, nr + nq, rfl⟩
          case measure => simp [intOf]; omega
      · go_wp2
        go_ret
        rw [List.take_of_length_le (by omega), List.take_of_length_le (by have := Hne.out; omega)] at hq
        exact ⟨by simp [hq], nr, rfl⟩
  · have hne' : ((A.length : Int) != (B.length : Int)) = true := by simp; omega
    have HN := Lib.hid hne
    clear hne
    go_enter Tryz.func7, Tryz.ntmps7
    go_wp2
    go_ret
    exact ⟨by have : ¬ A = B := fun h => HN.out (by rw [h]); simp [this], 0, rfl⟩
set_option maxRecDepth 100000 in
theorem CloneW_any (p : Option Addr) (cap n : Nat) (cs : List Value) (w : World) (hc : Cells w p cs) (hl : cs.length = n * 2) (h1 : ∀ u ∈ cs, u.oneCell' = true) (hn : n ≤ 1000000) (hq : p = none → n = 0 ∧ cap = 0) :
    Calls Tryz.prog 10 #[.slice p n cap] w fun e w' => Ext w w' ∧ ∃ v, e = .returned v ∧ w'.ownsRow w.heap.size 25 2 v n cs := by
  cases p with
  | none =>
    obtain ⟨rfl, rfl⟩ := hq rfl
    obtain rfl : cs = [] := List.eq_nil_of_length_eq_zero (by omega)
    have hnil : ∀ W, (binOp BinOp.eql 22 (.slice none 0 0) (.slice none 0 0)).run Tryz.prog W = .ok (.bool true) W := fun W => by kernel_rfl
    go_enter Tryz.func10, Tryz.ntmps10
    go_wp2
    go_ret
    exact ⟨Ext.refl _, _, rfl, World.ownsRow_nil _ _ _ _⟩
  | some ad =>
    clear hq
    have hnil : ∀ W, (binOp BinOp.eql 22 (.slice (some ad) n cap) (.slice none 0 0)).run Tryz.prog W = .ok (.bool false) W := fun W => by kernel_rfl
    go_enter Tryz.func10, Tryz.ntmps10
    have he := Ext.alloc w (.cells #[] 25)
    have hown : (w.alloc (.cells #[] 25)).ownsRow w.heap.size 25 2 (.slice (some ⟨w.heap.size, 0, none⟩) 0 0) 0 [] := World.ownsRow_made w #[] 0 (Nat.le_refl _) (by simp) rfl
    have hz : w.heap.size ≤ (w.alloc (.cells #[] 25)).heap.size := by simp
    go_wp2_with (at_builtin; go_must (refine wpList_appk (by rfl) (.tmp 5) (.tmp 6) 22 25 rfl w.heap.size (.agg #[.int .i64 0, .string ByteArray.empty]) 2 24 Tryz.underlying22 infoSW rfl (by decide) _ 0 [] rfl hown (some ad) n cap cs rfl rfl hl (Cells.ext hc he) h1 (by omega) (by decide) hz ?_; intro v8 w8 hout8 hgr8))
    go_ret
    refine ⟨Ext.trans' he (Below.of_grown hgr8 hown (Nat.le_refl _) hz), _, rfl, ?_⟩
    simpa using hout8
end Go.Proofs.YtmnpappbacndlaaGreatDoor
