/- The walks of the reference's reader. -/
import Derived.Test.YtkhlglkipeoalaaDoorW2
import Derived.Deep.DeepMust
set_option linter.unusedSimpArgs false
set_option linter.unusedVariables false
namespace Go.Proofs.YtkhlglkipeoalaaDoor
open Go.RowKit Dsd

theorem number_int (l : List UInt8) (i : Int) (h0 : 0 ≤ i) (hi : i + 1 < l.length) (hs : l.length ≤ 1000000) (w : World) :
    Calls Tryd.prog 88 #[.string ⟨l.toArray⟩, .int .i64 i] w fun e w' => e = .returned (.int .i64 (two l i.toNat : Nat)) ∧ ∃ n, w' = w.drewN n := by
  obtain ⟨i, rfl⟩ := Int.eq_ofNat_of_zero_le h0
  rw [Int.toNat_natCast]
  exact number_any l i (by omega) hs w
theorem infoInt : (Tryd.prog.info? 3).map (fun i => (i.zero, i.size, i.bytes)) = some (some (.int .i64 0), 1, 8) := by kernel_rfl

/-- A slice of ints is handed back. -/
def IntsOut (l : List Int) (w : World) (e : Ending) (w' : World) : Prop := ∃ p cap, e = .returned (.slice p l.length cap) ∧ Cells w' p (l.map (Value.int .i64)) ∧ Ext w w'
theorem intsOut_own {B : Nat} {w w' : World} {v : Value} {l : List Int} (h : w'.ownsRow B 3 1 v l.length (l.map (Value.int .i64))) (hb : Below B w w') (hB : B = w.heap.size) : IntsOut l w (.returned v) w' := by
  obtain ⟨p, cap, rfl, hc, _⟩ := own_cells h
  subst hB
  exact ⟨p, cap, by simp, hc, hb⟩
theorem below_drewN {B n : Nat} {w w' : World} (h : Below B w w') : Below B w (w'.drewN n) := h.trans ⟨rfl, rfl, rfl, Nat.le_refl _, fun _ _ => rfl⟩
theorem own_drewN {B n : Nat} {w : World} {e : TypeId} {size : Nat} {v : Value} {k : Nat} {xs : List Value} (h : w.ownsRow B e size v k xs) : (w.drewN n).ownsRow B e size v k xs := h

set_option maxRecDepth 100000 in
set_option maxHeartbeats 2000000 in
theorem lengths_any (size : Nat) (h128 : 128 ≤ size) (h512 : size ≤ 512) (d : List UInt8) (hd : d.length = size) (w : World) :
    Calls Tryd.prog 81 #[.int .i64 size, .string ⟨d.toArray⟩] w (IntsOut (lensL size d) w) := by
  have t1 := two_lt d (size - 4)
  have t2 := two_lt d (size - 2)
  have e4 : ((size : Int) - 4).toNat = size - 4 := by omega
  have e2 : ((size : Int) - 2).toNat = size - 2 := by omega
  have hR : Hid (lensL size d = lensF d size (two d (size - 4) + two d (size - 2)) size (size - 7) []) := Lib.hid rfl
  generalize lensL size d = R at *
  have Hd := Lib.hid hd
  clear hd
  have hdl : size ≤ d.length := by rw [Hd.out]; exact Nat.le_refl _
  have hdm : d.length ≤ 1000000 := by have := Hd.out; omega
  obtain ⟨B, hB⟩ : ∃ B, B = w.heap.size := ⟨_, rfl⟩
  have HB := Lib.hid hB
  clear hB
  go_enter Tryd.func81, Tryd.ntmps81
  go_wp2_with (go_at_call 88; refine (number_int d _ (by omega) (by omega) hdm _).mono ?_; rintro e w' ⟨rfl, nq, rfl⟩)
  generalize two d (size - 4) = A at *
  generalize two d (size - 2) = C at *
  have e0 : (([] : List Int).map (Value.int .i64)) = [] := rfl
  go_loopw [5, 7] (fun v i wr => ∃ (f : Nat) (x : Int) (out : List Int), i = .int .i64 x ∧ lensF d size (A + C) f x out = R ∧ x < 3 * f ∧ -6 ≤ x ∧ x ≤ size - 7 ∧
      wr.ownsRow B 3 1 v out.length (out.map (Value.int .i64)) ∧ Below B w wr ∧ B ≤ wr.heap.size ∧ out.length + 512 * f ≤ 512 * 512) (fun _ i _ => (intOf i + 7).toNat)
  case atStart => exact ⟨size, size - 7, [], rfl, hR.out.symm, by omega, by omega, by omega, own_drewN (World.ownsRow_made w #[] 0 (by rw [HB.out]; exact Nat.le_refl _) (by simp) rfl), below_drewN ((Below.refl _ _).alloc (by rw [HB.out]; exact Nat.le_refl _) _), by rw [HB.out]; simp, by simp; omega⟩
  case round =>
    obtain ⟨f, x, out, rfl, hl, hf, hx1, hx2, hown, hbel, hbs, hol⟩ := hrel
    by_cases hc : (A : Int) + C ≤ x ∧ 0 ≤ x
    · obtain ⟨hc1, hc2⟩ := hc
      obtain ⟨f, rfl⟩ : ∃ g, f = g + 1 := ⟨f - 1, by omega⟩
      have b1 := byt_lt d x.toNat
      have t3 := two_lt d (x + 1).toNat
      by_cases hz : byt d x.toNat = 0
      · have HL := Lib.hid (hl.symm.trans (lensF_zero (by omega) hc2 hz))
        have hzb : ((byt d x.toNat : Int) == 0) = true := by simp [hz]
        clear hl
        go_wp2_with (first | (go_at_call 88; refine (number_int d _ (by omega) (by omega) hdm _).mono ?_; rintro e w' ⟨rfl, nq, rfl⟩) | (at_builtin; go_must (refine wpList_app rfl (.tmp 42) (.tmp 44) 43 3 rfl B (.int .i64 0) 1 8 Tryd.underlying43 infoInt rfl (by decide) u5 _ _ rfl ((own_drewN hown).alloc _) _ [.int .i64 _] rfl (Blk.new (wr.drewN nq) _) rfl (by intro u hu; simp at hu; subst hu; rfl) (by omega) (by decide) (by simp; omega) ?_; intro v' w1 hown1 hgr1)))
        have hb1 := Below.of_grown (B := B) hgr1 ((own_drewN hown).alloc _) (Nat.le_refl _) (by simp; omega)
        have hs1 := hgr1.size
        simp at hs1
        clear hgr1
        go_roundw
        case rel => exact ⟨f, x - 3, _, rfl, HL.out.symm, by omega, by omega, by omega, by simpa using hown1, (below_drewN hbel).trans (((Below.refl _ _).alloc (by simpa using hbs) _).trans hb1), by omega, by simp; omega⟩
        case measure => simp [intOf]; omega
      · have hzb : ((byt d x.toNat : Int) == 0) = false := by simp; omega
        by_cases hm : byt d x.toNat = 64 ∧ (A : Int) + C ≤ x - 3 ∧ byt d (x - 3).toNat = 8
        · obtain ⟨hm1, hm2, hm3⟩ := hm
          have HL := Lib.hid (hl.symm.trans (lensF_many (by omega) hc2 hm1 (by omega) hm3))
          have h64 : ((byt d x.toNat : Int) == 64) = true := by simp [hm1]
          have h8 : ((byt d (x - 3).toNat : Int) == 8) = true := by simp [hm3]
          clear hl hz hm1 hm3
          have t4 := two_lt d (x - 2).toNat
          have hfin : ∀ k : Nat, k ≤ size → k ≤ two d (x - 2).toNat → ¬ (k < two d (x - 2).toNat ∧ k < size) → k = min (two d (x - 2).toNat) size := by omega
          have HF := Lib.hid hfin
          clear hfin
          go_wp2_with (first | (go_at_call 88; refine (number_int d _ (by omega) (by omega) hdm _).mono ?_; rintro e w' ⟨rfl, nq, rfl⟩))
          generalize two d (x - 2).toNat = m at *
          generalize two d (x + 1).toNat = y at *
          obtain ⟨wo, rfl⟩ : ∃ wo : World, wo = wr := ⟨_, rfl⟩
          go_loopw [5, 10] (fun v i wi => ∃ k : Nat, k ≤ size ∧ k ≤ m ∧ i = .int .i64 k ∧ wi.ownsRow B 3 1 v (out.length + k) ((out ++ List.replicate k (y : Int)).map (Value.int .i64)) ∧ Below B w wi ∧ B ≤ wi.heap.size) (fun _ i _ => size - (intOf i).toNat)
          case atStart => exact ⟨0, by omega, by omega, rfl, by simpa using own_drewN hown, below_drewN hbel, hbs⟩
          case round =>
            obtain ⟨k, hk1, hk2, rfl, hownk, hbelk, hbsk⟩ := hrel
            clear hown hbel hbs
            by_cases hk : k < m ∧ k < size
            · obtain ⟨hk3, hk4⟩ := hk
              go_wp2_with (first | (at_builtin; go_must (refine wpList_app rfl (.tmp 78) (.tmp 80) 43 3 rfl B (.int .i64 0) 1 8 Tryd.underlying43 infoInt rfl (by decide) _ _ _ rfl (hownk.alloc _) _ [.int .i64 _] rfl (Blk.new wr _) rfl (by intro u hu; simp at hu; subst hu; rfl) (by omega) (by decide) (by simp; omega) ?_; intro v' w1 hown1 hgr1)))
              have hb1 := Below.of_grown (B := B) hgr1 (hownk.alloc _) (Nat.le_refl _) (by simp; omega)
              have hs1 := hgr1.size
              simp at hs1
              clear hgr1
              go_roundw
              case rel => exact ⟨k + 1, by omega, by omega, by go_num, by simpa [List.replicate_succ', Nat.add_assoc] using hown1, hbelk.trans (((Below.refl _ _).alloc hbsk _).trans hb1), by omega⟩
              case measure => simp [intOf]; omega
            · have hkk := HF.out k hk1 hk2 hk
              have Hk := Lib.hid hkk
              clear hkk HF
              by_cases hk3 : k < m
              all_goals
                go_wp2
                go_roundw
                case rel => exact ⟨f, x - 3 - 3, _, rfl, HL.out.symm, by omega, by omega, by omega, by rw [← Hk.out]; simpa using hownk, hbelk, hbsk, by rw [← Hk.out]; simp; omega⟩
                case measure => simp [intOf]; omega
        · have HL := Lib.hid (hl.symm.trans (lensF_bad (by omega) hc2 hz (by omega)))
          have hm' := hm
          clear hl hm
          have hb8 := byt_lt d (x - 3).toNat
          have hout := fun (W : World) (hW : Below B w W) (hS : B ≤ W.heap.size) => intsOut_own (l := [-1]) (World.ownsRow_lit (base := B) (e := 3) (size := 1) W #[.int .i64 (-1)] 1 hS (by simp [maxLen]) rfl) (hW.trans ((Below.refl B W).alloc hS _)) HB.out
          have HO := Lib.hid hout
          clear hout
          by_cases g1 : byt d x.toNat = 64
          · have h64 : ((byt d x.toNat : Int) == 64) = true := by simp [g1]
            by_cases g2 : (A : Int) + C ≤ x - 3
            · have g3 : ((byt d (x - 3).toNat : Int) == 8) = false := by simp; omega
              clear hm' g1 hz
              go_wp2_with (first | (go_at_call 88; refine (number_int d _ (by omega) (by omega) hdm _).mono ?_; rintro e w' ⟨rfl, nq, rfl⟩))
              go_ret
              rw [HL.out]
              exact HO.out _ (below_drewN hbel) hbs
            · have g3 : decide ((A : Int) + C ≤ x - 3) = false := by simp; omega
              clear hm' g1 hz g2
              go_wp2_with (first | (go_at_call 88; refine (number_int d _ (by omega) (by omega) hdm _).mono ?_; rintro e w' ⟨rfl, nq, rfl⟩))
              go_ret
              rw [HL.out]
              exact HO.out _ (below_drewN hbel) hbs
          · have h64 : ((byt d x.toNat : Int) == 64) = false := by simp; omega
            clear hm' g1 hz
            go_wp2_with (first | (go_at_call 88; refine (number_int d _ (by omega) (by omega) hdm _).mono ?_; rintro e w' ⟨rfl, nq, rfl⟩))
            go_ret
            rw [HL.out]
            exact HO.out _ (below_drewN hbel) hbs
    · have HL := Lib.hid (hl.symm.trans (lensF_end (by omega)))
      clear hl
      have h0 : x < (A : Int) + C := by omega
      clear hc
      go_wp2
      go_ret
      rw [HL.out]
      exact intsOut_own hown hbel HB.out
end Go.Proofs.YtkhlglkipeoalaaDoor
