/- The walks of the reference's writers. -/
import Derived.Test.YtmnpappbacndlaaGreatDoorW1
import Derived.Test.YtmnpappbacndlaaGreatDoorPA
import Derived.Test.YtmnpappbacndlaaGreatDoorMono
import Derived.Deep.DeepMust
set_option linter.unusedSimpArgs false
set_option linter.unusedVariables false
namespace Go.Proofs.YtmnpappbacndlaaGreatDoor
open Go.RowKit Dsd

theorem infoByte : (Tryz.prog.info? 5).map (fun i => (i.zero, i.size, i.bytes)) = some (some (.int .u8 0), 1, 1) := by kernel_rfl





theorem sumLen_le (L : List (List UInt8)) (hm : Small L) : sumLen L ≤ 1000000 * L.length := by
  obtain ⟨_, h⟩ := hm
  induction L with
  | nil => simp [sumLen]
  | cons x L ih =>
    have := ih (by simp at *; omega) (fun s hs => h s (by simp [hs]))
    have := h x (by simp)
    simp [sumLen] at *; omega
theorem sumLen_take (L : List (List UInt8)) (k : Nat) (hk : k < L.length) : sumLen (L.take (k + 1)) = sumLen (L.take k) + (L.getD k []).length := by
  rw [List.take_succ_eq_append_getElem hk]; unfold sumLen; rw [List.map_append, List.sum_append]; simp [List.getD, hk]
theorem sumLen_take_le (L : List (List UInt8)) (k : Nat) : sumLen (L.take k) ≤ sumLen L := by
  induction L generalizing k with
  | nil => simp
  | cons x L ih => cases k with
    | zero => simp [sumLen]
    | succ k => have := ih k; simp [sumLen] at *; omega
theorem flatten_take (L : List (List UInt8)) (k : Nat) (hk : k < L.length) : (L.take (k + 1)).flatten = (L.take k).flatten ++ L.getD k [] := by
  rw [List.take_succ_eq_append_getElem hk, List.flatten_append]; simp [List.getD, hk]
theorem length_flatten_sum (L : List (List UInt8)) : L.flatten.length = sumLen L := by simp [sumLen, List.length_flatten]






theorem ret_tup {a b : List UInt8} {x y : Int} (h1 : a = b) (h2 : x = y) : Ending.returned (.tuple #[.string ⟨a.toArray⟩, .int .i64 x]) = .returned (.tuple #[.string ⟨b.toArray⟩, .int .i64 y]) := by rw [h1, h2]

end Go.Proofs.YtmnpappbacndlaaGreatDoor
/- The walks of the program's writer: runs, Size, the page's methods, Encode. -/
namespace Go.Proofs.YtmnpappbacndlaaGreatDoor
open Go.RowKit Dsd

/-- What 'runs' asks of a closure: from every state of the kind I it takes a run and goes to the next; states of the kind I bear draws, and the records read as they did. -/
structure Doer (f : FuncId) (caps : Array Value) (p : Option Addr) (L : List (List UInt8)) (I : List (Nat × Nat) → World → Prop) : Prop where
  call : ∀ args W, (callFunc f args).run Tryz.prog W = .ok (.enter f args) W
  drawn : ∀ done W n, I done W → I done (W.drewN n)
  reads : ∀ done W, I done W → Strs W p L
  step : ∀ done n len rest W, runsL L = done ++ (n, len) :: rest → I done W → Calls Tryz.prog f (#[.int .i64 (n : Nat), .int .i64 (len : Nat)] ++ caps) W fun e W' => e = .returned (.tuple #[]) ∧ I (done ++ [(n, len)]) W'

theorem runs_drop (L : List (List UInt8)) (k : Nat) (hk : k < L.length) : runsL (L.drop k) = (headRun (L.drop k), (L.getD k []).length) :: runsL (L.drop (k + headRun (L.drop k))) := by
  have e : L.drop k = L[k] :: L.drop (k + 1) := List.drop_eq_getElem_cons hk
  have h := runsL_cons L[k] (L.drop (k + 1))
  rw [← e] at h
  rw [h, List.drop_drop]
  simp [List.getD, hk]
theorem headRun_drop_le (L : List (List UInt8)) (k : Nat) (hk : k < L.length) : k + headRun (L.drop k) ≤ L.length := by
  rw [List.drop_eq_getElem_cons hk]
  have := headRun_le L[k] (L.drop (k + 1))
  rw [← List.drop_eq_getElem_cons hk] at *
  simp at this; omega
theorem headRun_eq0 (L : List (List UInt8)) (k : Nat) (h1 : 1 ≤ k) (h2 : k ≤ L.length) (h3 : ∀ j, j < k → (L.getD j []).length = (L.getD 0 []).length)
    (h4 : k < L.length → (L.getD k []).length ≠ (L.getD 0 []).length) : headRun L = k := by
  have := headRun_eq L 0 k h1 (by omega) (by simpa using h3) (by simpa using h4)
  simpa using this

set_option maxRecDepth 100000 in
set_option maxHeartbeats 1000000 in
theorem runs_any (f : FuncId) (caps : Array Value) (p : Option Addr) (n cap : Nat) (L : List (List UInt8)) (I : List (Nat × Nat) → World → Prop) (hD : Doer f caps p L I) (hn : L.length = n) (hcap : n ≤ cap) (hcm : cap ≤ maxLen) (hm : Small L) (w : World) (hI : I [] w) :
    Calls Tryz.prog 81 #[.slice p n cap, .func (.func f) #[] caps] w fun e w' => e = .returned (.tuple #[]) ∧ I (runsL L) w' := by
  have hL := hm.1
  subst hn
  unfold maxLen at hcm
  go_enter Tryz.func81, Tryz.ntmps81
  go_wp2
  go_loopw [0] (fun s wr => ∃ (k : Nat) (done : List (Nat × Nat)) (q : Option Addr), k ≤ L.length ∧ s = .slice q (L.length - k) (cap - k) ∧ runsL L = done ++ runsL (L.drop k) ∧ I done wr ∧ ∀ W, Strs W p L → Strs W q (L.drop k)) (fun s _ => match s with | .slice _ m _ => m | _ => 0)
  case atStart => exact ⟨0, [], p, Nat.zero_le _, by simp, by simp, hI, fun W h => by simpa using h⟩
  case round =>
    obtain ⟨k, done, q, hk, rfl, hr, hIr, hqq⟩ := hrel
    have hq := hqq _ (hD.reads _ _ hIr)
    by_cases hlt : k < L.length
    · have hlM : (L.drop k).length = L.length - k := by simp
      have hmM : ∀ i, ((L.drop k).getD i []).length ≤ 1000000 := fun i => by have := hm.at (k + i); simpa [List.getD] using this
      have hrd := runs_drop L k hlt
      have hle := headRun_drop_le L k hlt
      have h0 : L.getD k [] = (L.drop k).getD 0 [] := by simp [List.getD]
      rw [h0] at hrd
      have hrw := hr
      rw [hrd] at hrw
      have hhr := headRun_eq0 (L.drop k)
      have HQ := Lib.hid hq
      have HQQ := Lib.hid hqq
      have Hk1 := Lib.hid hrw
      have Hhr := Lib.hid hhr
      generalize headRun (L.drop k) = R at *
      generalize hMM : L.drop k = M at *
      have HM := Lib.hid hMM
      have Hk2 := Lib.hid hlM
      have hm0 : 0 < L.length - k := by omega
      have hcc : L.length - k ≤ cap - k := by omega
      have hcc2 : cap - k ≤ 9223372036854775807 := by omega
      have hmL : L.length - k ≤ 1000000 := by omega
      generalize hmm : L.length - k = m at *
      generalize hcc' : cap - k = c at *
      have Hm := Lib.hid hmm
      have Hc := Lib.hid hcc'
      obtain ⟨b, off, rfl, hb, hc⟩ := HQ.out.at 0 (by have := Hk2.out; omega)
      have HC := Lib.hid hc
      have HmM := Lib.hid hmM
      have hc0 := hc 0 (by have := Hk2.out; omega)
      have hl0 := hmM 0
      generalize hz : M.getD 0 [] = z at *
      have HZ := Lib.hid hz
      simp only [Nat.add_zero] at hc0
      have HI := Lib.hid hIr
      have hcall := hD.call
      have Hstep := Lib.hid hD.step
      have Hdrawn := Lib.hid hD.drawn
      have Hreads := Lib.hid hD.reads
      clear hc hq hIr hrw hr hrd hhr hmM hlM hz h0 hle hm hD hMM hmm hcc' hqq
      have hm0I : (0 : Int) < m := by omega
      go_wp2
      obtain ⟨wo, rfl⟩ : ∃ wo : World, wo = wr := ⟨_, rfl⟩
      go_loopw [4] (fun s wi => ∃ j : Nat, 1 ≤ j ∧ j ≤ m ∧ s = .int .i64 j ∧ (∀ i, i < j → (M.getD i []).length = z.length) ∧ ∃ n, wi = wo.drewN n) (fun s _ => m - (intOf s).toNat)
      case atStart => exact ⟨1, by omega, by omega, rfl, fun i hi => by rw [show i = 0 by omega, HZ.out], 0, rfl⟩
      case round =>
        obtain ⟨j, hj1, hj2, rfl, hall, nr, rfl⟩ := hrel
        have HA := Lib.hid hall
        clear hall
        by_cases hjm : j < m
        · have hjI : (j : Int) < m := by omega
          have hcj := HC.out j (by have := Hk2.out; omega)
          have hlj := HmM.out j
          generalize hx : M.getD j [] = x at *
          have HX := Lib.hid hx
          clear hx
          go_wp2
          go_quiet (fail)
          go_wp2_with fail
          · have hd : x.length = z.length := by
              have hb : ((x.length : Int) == (z.length : Int)) = true := by assumption
              have := eq_of_beq hb; omega
            go_roundw
            case rel => exact ⟨j + 1, by omega, by omega, by go_num, fun i hi => by
              by_cases h : i < j
              · exact HA.out i h
              · rw [show i = j by omega, HX.out]; exact hd, nr + nq, rfl⟩
            case measure => simp [intOf]; omega
          · have hd : ¬ x.length = z.length := by
              have hb : ((x.length : Int) == (z.length : Int)) = false := by assumption
              intro h; rw [h] at hb; simp at hb
            have hRj : R = j := Hhr.out j hj1 (by have := Hk2.out; omega) HA.out (fun h0 => by rw [HX.out]; exact hd)
            have HK : Hid (runsL L = (done ++ [(j, z.length)]) ++ runsL (L.drop (k + j))) := Lib.hid (by rw [Hk1.out, hRj]; simp)
            refine (Hstep.out done j z.length _ _ (by rw [Hk1.out, hRj]) (Hdrawn.out _ _ _ HI.out)).mono ?_
            rintro e w1 ⟨rfl, hI1⟩
            have HI1 := Lib.hid hI1
            clear hI1 hRj
            have HD2 : Hid (L.drop (k + j) = M.drop j) := Lib.hid (by rw [← HM.out, List.drop_drop])
            by_cases hjc : (j : Int) < c
            · go_wp2
              go_roundw
              case rel => exact ⟨k + j, done ++ [(j, z.length)], some ⟨b, off + j, none⟩, by have := Hm.out; omega, by have := Hm.out; have := Hc.out; congr 1 <;> omega, HK.out, HI1.out, fun W h => by rw [HD2.out]; exact (HQQ.out W h).drop j⟩
              case measure => simp; omega
            · have hjc2 : ¬ j < c := by omega
              go_wp2
              go_roundw
              case rel => exact ⟨k + j, done ++ [(j, z.length)], some ⟨b, off, none⟩, by have := Hm.out; omega, by have := Hm.out; have := Hc.out; congr 1 <;> omega, HK.out, HI1.out, fun W h => by rw [HD2.out, List.drop_eq_nil_of_le (by have := Hk2.out; omega)]; exact .inl rfl⟩
              case measure => simp; omega
        · have hjI : decide ((j : Int) < m) = false := by simp; omega
          go_wp2
          go_quiet (fail)
          go_wp2_with fail
          have hRj : R = j := Hhr.out j hj1 (by have := Hk2.out; omega) HA.out (fun h0 => by have := Hk2.out; omega)
          have HK : Hid (runsL L = (done ++ [(j, z.length)]) ++ runsL (L.drop (k + j))) := Lib.hid (by rw [Hk1.out, hRj]; simp)
          refine (Hstep.out done j z.length _ _ (by rw [Hk1.out, hRj]) (Hdrawn.out _ _ _ HI.out)).mono ?_
          rintro e w1 ⟨rfl, hI1⟩
          have HI1 := Lib.hid hI1
          clear hI1 hRj
          have HD2 : Hid (L.drop (k + j) = M.drop j) := Lib.hid (by rw [← HM.out, List.drop_drop])
          by_cases hjc : (j : Int) < c
          · go_wp2
            go_roundw
            case rel => exact ⟨k + j, done ++ [(j, z.length)], some ⟨b, off + j, none⟩, by have := Hm.out; omega, by have := Hm.out; have := Hc.out; congr 1 <;> omega, HK.out, HI1.out, fun W h => by rw [HD2.out]; exact (HQQ.out W h).drop j⟩
            case measure => simp; omega
          · have hjc2 : ¬ j < c := by omega
            go_wp2
            go_roundw
            case rel => exact ⟨k + j, done ++ [(j, z.length)], some ⟨b, off, none⟩, by have := Hm.out; omega, by have := Hm.out; have := Hc.out; congr 1 <;> omega, HK.out, HI1.out, fun W h => by rw [HD2.out, List.drop_eq_nil_of_le (by have := Hk2.out; omega)]; exact .inl rfl⟩
            case measure => simp; omega
    · have hkk : k = L.length := by omega
      have HK : Hid (runsL L = done) := Lib.hid (by rw [hr, hkk, List.drop_length]; simp [runsL])
      have hz : L.length - k = 0 := by omega
      rw [hz]
      have HI := Lib.hid hIr
      clear hr hIr hqq hq hD hkk hz
      go_wp2
      go_end0
      exact ⟨rfl, by rw [HK.out]; exact HI.out⟩

end Go.Proofs.YtmnpappbacndlaaGreatDoor
/- The walks of the program's Size and Fits. -/
namespace Go.Proofs.YtmnpappbacndlaaGreatDoor
open Go.RowKit Dsd

theorem setCell_int {W : World} {x : Addr} {a b : Int} (h : a = b) : W.setCell x (.int .i64 a) = W.setCell x (.int .i64 b) := by rw [h]

set_option maxRecDepth 100000 in
theorem Size1_any (n len s : Nat) (b : Nat) (W : World) (hs : s + cost (n, len) ≤ 10000000000000) (hn : n ≤ 1000000) (hc : W.cell? ⟨b, 0, none⟩ = some (.int .i64 s)) (hf : W.frozen? ⟨b, 0, none⟩ = false) :
    Calls Tryz.prog 118 #[.int .i64 n, .int .i64 len, .pointer (some ⟨b, 0, none⟩)] W fun e W' => e = .returned (.tuple #[]) ∧ W' = W.setCell ⟨b, 0, none⟩ (.int .i64 (s + cost (n, len) : Nat)) := by
  unfold cost at hs ⊢
  simp only at hs ⊢
  obtain ⟨q, hq⟩ : ∃ q, q = n * len := ⟨_, rfl⟩
  rw [← hq] at hs ⊢
  have hw : IntKind.i64.wrap ((n : Int) * len) = (q : Int) := by
    have : ((n : Int) * len) = ((n * len : Nat) : Int) := by simp
    rw [this, ← hq]; exact IntWalk.i64_in _ (by omega)
  clear hq
  by_cases h2 : (n : Int) < 2
  · have hm : Hid (3 * min n 2 = 3 * n) := Lib.hid (by omega)
    go_enter Tryz.func118, Tryz.ntmps118
    go_wp2
    go_end0
    exact ⟨rfl, setCell_int (by have := hm.out; omega)⟩
  · have hm : Hid (3 * min n 2 = 6) := Lib.hid (by omega)
    go_enter Tryz.func118, Tryz.ntmps118
    go_wp2
    all_goals
      go_end0
      exact ⟨rfl, setCell_int (by have := hm.out; omega)⟩

/-- The states of Size's closure. -/
def SizeI (w : World) (done : List (Nat × Nat)) (W : World) : Prop :=
  Ext w W ∧ w.heap.size < W.heap.size ∧ W.cell? ⟨w.heap.size, 0, none⟩ = some (.int .i64 (4 + costs done : Nat)) ∧ W.frozen? ⟨w.heap.size, 0, none⟩ = false

theorem size_doer (p : Option Addr) (L : List (List UInt8)) (w : World) (hs : Strs w p L) (hm : Small L) : Doer 118 #[.pointer (some ⟨w.heap.size, 0, none⟩)] p L (SizeI w) where
  call := fun args W => by simp [callFunc, Tryz.func118]; kernel_rfl
  drawn := fun done W n ⟨h1, h2, h3, h4⟩ => ⟨h1.trans (Ext.drewN W n), h2, h3, h4⟩
  reads := fun done W h => hs.ext h.1
  step := fun done n len rest W hr ⟨h1, h2, h3, h4⟩ => by
    have hle := costs_le L done ((n, len) :: rest) hr
    have hsz : sizeL L ≤ 4 + 6 * L.length + 1000000 * L.length := by have := length_fieldsL L; have := sumLen_le L hm; unfold sizeL; omega
    have hL := hm.1
    have hc : costs ((n, len) :: rest) = cost (n, len) + costs rest := by simp [costs]
    have hrun := runs_count (runsL L) (runs_pos L)
    rw [flatRuns_runs, List.length_map] at hrun
    have hn := hrun.2 (n, len) (by rw [hr]; simp)
    refine (Size1_any n len (4 + costs done) w.heap.size W (by omega) (by simpa using Nat.le_trans hn hL) h3 h4).mono ?_
    rintro e W' ⟨rfl, rfl⟩
    refine ⟨rfl, ?_, by simpa using h2, ?_, by simpa using h4⟩
    · exact Below.setCell h1 (Nat.le_refl _) _
    · rw [World.cell?_setCell_same _ _ _ h3, costs_append]
      simp [costs, Nat.add_assoc]

theorem cell_new0 (w : World) (v : Value) (t : TypeId) : (w.alloc (.cells #[v] t)).cell? ⟨w.heap.size, 0, none⟩ = some v := by
  have h := heap_alloc_new w (.cells #[v] t)
  unfold World.cell?; rw [h]; rfl
theorem frozen_new0 (w : World) (v : Value) (t : TypeId) (i : Nat) : (w.alloc (.cells #[v] t)).frozen? ⟨w.heap.size, i, none⟩ = false := by
  have h := heap_alloc_new w (.cells #[v] t)
  unfold World.frozen?; rw [h]; simp
theorem sizeI_start (w : World) (t : TypeId) : SizeI w [] (w.alloc (.cells #[.int .i64 4] t)) := ⟨Ext.alloc _ _, by simp, cell_new0 _ _ _, frozen_new0 _ _ _ _⟩
set_option maxRecDepth 100000 in
theorem Size_any (p : Option Addr) (cap n : Nat) (L : List (List UInt8)) (w : World) (hs : Strs w p L) (hn : L.length = n) (hcap : n ≤ cap) (hcm : cap ≤ maxLen) (hm : Small L) :
    Calls Tryz.prog 80 #[.slice p n cap] w fun e w' => e = .returned (.int .i64 (sizeL L : Nat)) ∧ Ext w w' := by
  have hD := size_doer p L w hs hm
  have hrun := runs_any _ _ p n cap L _ hD hn hcap hcm hm
  have Hrun := Lib.hid hrun
  have HS := Lib.hid (costs_size L)
  clear hrun hD
  go_enter Tryz.func80, Tryz.ntmps80
  go_wp2_with (go_at_call 81; refine (Hrun.out _ (sizeI_start w _)).mono ?_; rintro e w1 ⟨rfl, h1, h2, h3, h4⟩)
  go_ret
  exact ⟨ret_int (by have := HS.out; omega), h1⟩

theorem Fits_any (p : Option Addr) (cap n : Nat) (L : List (List UInt8)) (size : Int) (w : World) (hs : Strs w p L) (hn : L.length = n) (hcap : n ≤ cap) (hcm : cap ≤ maxLen) (hm : Small L) :
    Calls Tryz.prog 77 #[.int .i64 size, .slice p n cap] w fun e w' => e = .returned (.bool (isSizeB size && allowedB L && decide ((sizeL L : Int) ≤ size))) ∧ Ext w w' := by
  by_cases h1 : isSizeB size = true
  · by_cases h2 : allowedB L = true
    · go_enter Tryz.func77, Tryz.ntmps77
      go_wp2_with (first | (go_at_call 44; refine (isSize_any _ _).mono ?_; rintro e w' ⟨rfl, rfl⟩) | (go_at_call 79; refine (allowed_any _ _ _ L _ hs hn hm).mono ?_; rintro e w' ⟨rfl, rfl⟩) | (go_at_call 80; refine (Size_any _ _ _ L _ hs hn hcap hcm hm).mono ?_; rintro e w' ⟨rfl, he⟩))
      go_ret
      exact ⟨ret_bool (by rw [h1, h2]; simp), he⟩
    · have h2' : allowedB L = false := by simpa using h2
      clear h2
      go_enter Tryz.func77, Tryz.ntmps77
      go_wp2_with (first | (go_at_call 44; refine (isSize_any _ _).mono ?_; rintro e w' ⟨rfl, rfl⟩) | (go_at_call 79; refine (allowed_any _ _ _ L _ hs hn hm).mono ?_; rintro e w' ⟨rfl, rfl⟩))
      go_ret
      exact ⟨ret_bool (by rw [h1, h2']; simp), Ext.refl _⟩
  · have h1' : isSizeB size = false := by simpa using h1
    clear h1
    go_enter Tryz.func77, Tryz.ntmps77
    go_wp2_with (go_at_call 44; refine (isSize_any _ _).mono ?_; rintro e w' ⟨rfl, rfl⟩)
    go_ret
    exact ⟨ret_bool (by rw [h1']; simp), Ext.refl _⟩
end Go.Proofs.YtmnpappbacndlaaGreatDoor
