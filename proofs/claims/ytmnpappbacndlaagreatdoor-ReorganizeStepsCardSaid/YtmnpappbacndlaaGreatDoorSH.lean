/- The law ReorganizeSteps. -/
import Derived.Test.YtmnpappbacndlaaGreatDoorSG
import Derived.BigQuiet
set_option linter.unusedSimpArgs false
set_option linter.unusedVariables false
namespace Go.Proofs.YtmnpappbacndlaaGreatDoor
open Go Go.RowKit Dsd
theorem refGo_each (h : List SW) : ∀ (n : Nat) (r : List SW), ∀ x ∈ refGo h n r, x.length ≤ r.length + h.length
  | 0, r, x, hx => by
    unfold refGo at hx
    split at hx
    · simp at hx; subst hx; simp; omega
    · simp at hx
  | n + 1, r, x, hx => by
    unfold refGo at hx
    split at hx
    · rcases List.mem_cons.1 hx with rfl | hx
      · simp; omega
      · have := refGo_each h n _ x hx
        simp at this; omega
    · split at hx
      · simp at hx; subst hx; simp; omega
      · simp at hx
set_option maxRecDepth 100000 in
set_option maxHeartbeats 4000000 in
theorem ReorganizeSteps_any (p : Option Addr) (cap n : Nat) (L : List SW) (w : World) (hc : Cells w p (swC L)) (hn : L.length = n) (h1 : n ≤ cap) (h2 : cap ≤ maxLen) :
    Calls Tryz.prog 3 #[.slice p n cap] w fun e w' => e = .returned (.bool true) ∧ Ext w w' := by
  have HA := Lib.hid awake_any
  have Hn := Lib.hid hn
  have Hc := Lib.hid hc
  clear hn hc
  go_enter Tryz.func3, Tryz.ntmps3
  go_upto_region 3 with (go_at_call 4; refine (HA.out _).mono ?_; rintro e w1 ⟨rfl, he1⟩)
  by_cases hm : n ≤ 400
  · have g : decide ((400 : Int) < (n : Int)) = false := decide_eq_false (by omega)
    have HC1 := Lib.hid (Hc.out.ext he1)
    have HP : Hid (∀ W, Ext w1 W → Calls Tryz.prog 5 #[.slice p n cap] W fun e w' => Ext W w' ∧ ∃ v vs, e = .returned v ∧ w'.ownsRow W.heap.size 22 1 v (joinH (hdL L n) (chunks (rsL L n))).length vs ∧ SwVs 25 w' vs (joinH (hdL L n) (chunks (rsL L n)))) := Lib.hid (fun W e => StepsP_any p cap n L W (HC1.out.ext e) Hn.out hm)
    have HR : Hid (∀ W, Ext w1 W → Calls Tryz.prog 6 #[.slice p n cap] W fun e w' => Ext W w' ∧ ∃ v vs, e = .returned v ∧ w'.ownsRow W.heap.size 22 1 v (refAll (hdL L n) (rsL L n)).length vs ∧ SwVs 25 w' vs (refAll (hdL L n) (rsL L n))) := Lib.hid (fun W e => StepsR_any p cap n L W (HC1.out.ext e) Hn.out hm)
    go_upto_region 7 with fail
    go_loop [3, 4] (fun h i => ∃ j : Nat, j ≤ n ∧ i = .int .i64 j ∧ h = .int .i64 ((hdL L j).length : Nat) ∧ (hdL L j).length ≤ 10) (fun _ i => n - (intOf i).toNat)
    case atStart => exact ⟨0, by omega, rfl, rfl, by simp [hdL]⟩
    case round =>
      obtain ⟨j, hj, rfl, rfl, hh⟩ := hrel
      by_cases hlt : j < n
      · have hltI : (j : Int) < n := by omega
        have hjL : j < L.length := by rw [Hn.out]; exact hlt
        obtain ⟨b, off, rfl, hb, hcc⟩ := swc_at HC1.out j hjL
        obtain ⟨c1, c2⟩ := hcc j hjL
        have HY := Lib.hid (fun hx => hdL_yes hjL hx)
        have HN := Lib.hid (fun hx => hdL_no hjL hx)
        clear hcc
        generalize hE1 : hdL L (j + 1) = A1 at *
        have HE1 := Lib.hid hE1
        clear hE1
        generalize hdL L j = A at *
        generalize swAt L j = x at *
        obtain ⟨u, s⟩ := x
        simp only at c1 c2 HY HN
        cases hu : u == 0
        · obtain ⟨rfl, _⟩ := HN.out hu
          have g10 : decide ((10 : Int) < (A1.length : Int)) = false := decide_eq_false (by omega)
          by_cases hs : 200 < s.length
          · have g20 : decide ((200 : Int) < (s.length : Int)) = true := decide_eq_true (by omega)
            go_wp2
            go_ret
            exact ⟨rfl, he1⟩
          · have g20 : decide ((200 : Int) < (s.length : Int)) = false := decide_eq_false (by omega)
            go_wp2
            go_round
            case rel => exact ⟨j + 1, by omega, by go_num, by rw [HE1.out], by rw [HE1.out]; exact hh⟩
            case measure => simp [intOf]; omega
        · obtain ⟨e1, _⟩ := HY.out hu
          by_cases hs : 200 < s.length
          · have g20 : decide ((200 : Int) < (s.length : Int)) = true := decide_eq_true (by omega)
            go_wp2
            go_ret
            exact ⟨rfl, he1⟩
          · have g20 : decide ((200 : Int) < (s.length : Int)) = false := decide_eq_false (by omega)
            by_cases hA : A.length = 10
            · have g10 : decide ((10 : Int) < (A.length : Int) + 1) = true := decide_eq_true (by omega)
              go_wp2
              go_ret
              exact ⟨rfl, he1⟩
            · have g10 : decide ((10 : Int) < (A.length : Int) + 1) = false := decide_eq_false (by omega)
              go_wp2
              go_round
              case rel => exact ⟨j + 1, by omega, by go_num, by rw [HE1.out, e1, List.length_append]; rfl, by rw [HE1.out, e1, List.length_append]; simp; omega⟩
              case measure => simp [intOf]; omega
      · have hltI : decide ((j : Int) < n) = false := decide_eq_false (by omega)
        obtain rfl : j = n := by omega
        have HEQ : Hid (refAll (hdL L j) (rsL L j) = joinH (hdL L j) (chunks (rsL L j))) := Lib.hid (ref_join (by omega) _ _ (Nat.le_refl _))
        rw [HEQ.out] at HR
        have HL : Hid ((joinH (hdL L j) (chunks (rsL L j))).length ≤ 401) := Lib.hid (by rw [← HEQ.out]; have := refAll_len (hdL L j) (rsL L j).length (rsL L j) (Nat.le_refl _); have := (hdL_le L j).2; omega)
        have HB : Hid (∀ k, k < (joinH (hdL L j) (chunks (rsL L j))).length → ((joinH (hdL L j) (chunks (rsL L j))).getD k []).length ≤ 1000000) := Lib.hid (by
          rw [← HEQ.out]
          intro k hk
          have h9 : (refAll (hdL L j) (rsL L j)).getD k [] ∈ refAll (hdL L j) (rsL L j) := by
            simp only [List.getD, List.getElem?_eq_getElem hk, Option.getD_some]
            exact List.getElem_mem hk
          have h8 := refGo_each _ _ _ _ h9
          have h7 := hdL_le L j
          omega)
        clear HEQ
        generalize joinH (hdL L j) (chunks (rsL L j)) = LL at *
        generalize hdL L j = A at *
        go_upto_region 14 with (first
          | (go_at_call 5; refine (HP.out _ (Ext.refl _)).mono ?_; rintro e w2 ⟨he2, v2, vs2, rfl, ho2, hv2⟩)
          | (go_at_call 6; refine (HR.out _ he2).mono ?_; rintro e w3 ⟨he3, v3, vs3, rfl, ho3, hv3⟩))
        obtain ⟨q2, k2, rfl⟩ := own_slice ho2
        obtain ⟨q3, k3, rfl⟩ := own_slice ho3
        have H2 := Lib.hid (own_cellsS (own_ext ho2 he3))
        have H3 := Lib.hid (own_cellsS ho3)
        have HV2 := Lib.hid (hv2.ext he3)
        have HV3 := Lib.hid hv3
        have HE3 := Lib.hid (he1.trans (he2.trans he3))
        have hLL := HL.out
        clear ho2 ho3 hv2 hv3 he1 he2 he3 HP HR
        go_upto_region 17 with fail
        go_loopw [49] (fun i wr => ∃ k : Nat, k ≤ LL.length ∧ i = .int .i64 k ∧ Ext w3 wr) (fun i _ => LL.length - (intOf i).toNat)
        case atStart => exact ⟨0, by omega, rfl, Ext.refl _⟩
        case round =>
          obtain ⟨k, hk, rfl, he⟩ := hrel
          have HE := Lib.hid he
          clear he
          by_cases hlt : k < LL.length
          · have hltI : (k : Int) < LL.length := by omega
            obtain ⟨b2, o2, rfl, _, r2⟩ := (H2.out.1.ext HE.out).at k (by rw [HV2.out.1]; exact hlt)
            obtain ⟨b3, o3, rfl, _, r3⟩ := (H3.out.1.ext HE.out).at k (by rw [HV3.out.1]; exact hlt)
            obtain ⟨qa, ca, ea, ha, _⟩ := (HV2.out.ext HE.out).2 k hlt
            obtain ⟨qb, cb, eb, hb, _⟩ := (HV3.out.ext HE.out).2 k hlt
            have c2 := r2 k (by rw [HV2.out.1]; exact hlt)
            have c3 := r3 k (by rw [HV3.out.1]; exact hlt)
            rw [ea] at c2
            rw [eb] at c3
            have hbd := HB.out k hlt
            have HSame : Hid (∀ m : Nat, Calls Tryz.prog 7 #[.slice qa (LL.getD k []).length ca, .slice qb (LL.getD k []).length cb] (wr.drewN m) fun e w' => e = .returned (.bool true) ∧ ∃ n, w' = (wr.drewN m).drewN n) := Lib.hid (fun m => (Same28_any qa qb ca _ cb _ (LL.getD k []) (LL.getD k []) (wr.drewN m) (ha.ext (Ext.drewN _ _)) (hb.ext (Ext.drewN _ _)) rfl rfl (by omega) (by omega)).mono (fun e w' ⟨h1, h2⟩ => ⟨by rw [h1]; simp, h2⟩))
            clear r2 r3 ea eb ha hb
            generalize (LL.getD k []).length = z at *
            go_upto_region 19 with fail
            go_quiet ((go_at_call 7; exact Calls.quiet_of (HSame.out _)))
            go_wp2
            go_roundw
            case rel => exact ⟨k + 1, by omega, by go_num, HE.out.trans (Ext.drewN _ _)⟩
            case measure => simp [intOf]; omega
          · have hltI : decide ((k : Int) < LL.length) = false := decide_eq_false (by omega)
            obtain rfl : k = LL.length := by omega
            go_wp2
            go_ret
            exact ⟨rfl, HE3.out.trans HE.out⟩
  · have g : decide ((400 : Int) < (n : Int)) = true := decide_eq_true (by omega)
    go_wp2
    go_ret
    exact ⟨rfl, he1⟩
end Go.Proofs.YtmnpappbacndlaaGreatDoor
