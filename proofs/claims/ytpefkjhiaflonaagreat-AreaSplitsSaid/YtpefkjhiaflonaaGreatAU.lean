/- The walk of area.unused: the least page of an area that its node does not name. -/
import Derived.Test.YtpefkjhiaflonaaGreatAQ
import Derived.Test.YtpefkjhiaflonaaGreatP21
import Derived.Deep.LoopGhost
set_option linter.unusedSimpArgs false
set_option linter.unusedVariables false
namespace Dsd
def pgGo (n : Int) : List Ent → Option Nat
  | [] => none
  | x :: L => if x.2 = n then some 0 else (pgGo n L).map (· + 1)
theorem pgGo_at {n : Int} {L : List Ent} {k : Nat} (h : k < L.length) : pgGo n (L.drop k) = if (entAt L k).2 = n then some 0 else (pgGo n (L.drop (k + 1))).map (· + 1) := by
  have e : entAt L k = L[k] := by simp [entAt, List.getD, h]
  rw [List.drop_eq_getElem_cons h, pgGo, e]
theorem pgGo_some {n : Int} : ∀ {L : List Ent}, (pgGo n L).isSome = decide (n ∈ L.map (·.2))
  | [] => by simp [pgGo]
  | x :: L => by
    rw [pgGo]
    by_cases h : x.2 = n
    · rw [if_pos h]; simp [h]
    · rw [if_neg h]
      have := pgGo_some (n := n) (L := L)
      have h2 : ¬ n = x.2 := fun e => h e.symm
      simp only [Option.isSome_map, this, List.map_cons, List.mem_cons, h2, false_or]
def unusedL (P : List Int) : Nat → Int → Int
  | 0, _ => 0
  | f + 1, n => if n ∈ P then unusedL P f (n + 1) else n
/-- The least page of an area that no entry names, or 0. -/
def unusedA (d : DS) (a : Ar) : Int := unusedL (a.nd.ents.map (·.2)) d.area.toNat (a.base + 1)
theorem unusedL_spec {P : List Int} : ∀ {f : Nat} {n : Int}, 1 ≤ n → (unusedL P f n = 0 ∧ ∀ x, n ≤ x → x < n + f → x ∈ P) ∨ (n ≤ unusedL P f n ∧ unusedL P f n < n + f ∧ unusedL P f n ∉ P)
  | 0, n, h => .inl ⟨rfl, fun x h1 h2 => by omega⟩
  | f + 1, n, h => by
    rw [unusedL]
    by_cases hm : n ∈ P
    · rw [if_pos hm]
      rcases unusedL_spec (P := P) (f := f) (n := n + 1) (by omega) with ⟨h1, h2⟩ | ⟨h1, h2, h3⟩
      · refine .inl ⟨h1, fun x h3 h4 => ?_⟩
        by_cases e : x = n
        · rw [e]; exact hm
        · exact h2 x (by omega) (by push_cast at h4; omega)
      · exact .inr ⟨by omega, by push_cast; omega, h3⟩
    · rw [if_neg hm]
      exact .inr ⟨Int.le_refl _, by push_cast; omega, hm⟩
end Dsd
namespace Go.Proofs.YtpefkjhiaflonaaGreat
open Go.RowKit Dsd
set_option maxRecDepth 100000 in
theorem unused1_any (cb : Nat) (n : Int) (sb : List UInt8) (pg : Int) (w : World) (hb : Blk w cb (.cells #[.int .i64 n] 3)) :
    Calls Tryz.prog 92 #[.agg #[.string ⟨sb.toArray⟩, .int .i64 pg], .pointer (some ⟨cb, 0, none⟩)] w fun e w' => e = .returned (.bool (pg == n)) ∧ Ext w w' := by
  have c0 := Blk.cell hb
  have hlt := Blk.lt hb
  have hne : ¬ cb = w.heap.size := by omega
  go_enter Tryz.func92, Tryz.ntmps92
  go_wp2
  go_ret
  exact ⟨rfl, Ext.alloc _ _⟩
def idxP : Option Nat → Int
  | none => -1
  | some i => i
set_option maxRecDepth 100000 in
set_option maxHeartbeats 1000000 in
theorem IndexU_any (p : Option Addr) (cap : Nat) (L : List Ent) (cb : Nat) (n : Int) (w : World) (hs : Nents w p L) (hm : L.length ≤ 1000000) (hb : Blk w cb (.cells #[.int .i64 n] 3)) :
    Calls Tryz.prog 126 #[.slice p L.length cap, .func (.func 92) #[] #[.pointer (some ⟨cb, 0, none⟩)]] w fun e w' => e = .returned (.int .i64 (idxP (pgGo n L))) ∧ Ext w w' := by
  have Hs := Lib.hid hs
  have Hb := Lib.hid hb
  clear hs hb
  go_enter Tryz.func126, Tryz.ntmps126
  go_wp2_with fail
  obtain ⟨wo, rfl⟩ : ∃ wo : World, wo = w := ⟨_, rfl⟩
  go_loopw [8] (fun i wr => ∃ k : Nat, k ≤ L.length ∧ i = .int .i64 k ∧ pgGo n L = (pgGo n (L.drop k)).map (· + k) ∧ Ext wo wr) (fun i _ => L.length - (intOf i).toNat)
  case atStart => exact ⟨0, Nat.zero_le _, rfl, by simp, Ext.refl _⟩
  case round =>
    obtain ⟨k, hk, rfl, hq, hext⟩ := hrel
    have Hq := Lib.hid hq
    clear hq
    by_cases hlt : k < L.length
    · have hltI : (k : Int) < L.length := by omega
      obtain ⟨b, off, rfl, hb, hc⟩ := (Hs.out.ext hext).at k hlt
      obtain ⟨hck, hck1⟩ := hc k hlt
      have HA := Lib.hid (pgGo_at (n := n) hlt)
      clear hc
      generalize entAt L k = x at *
      obtain ⟨sb, pg⟩ := x
      simp only at hck hck1 HA
      have Hpl := Lib.hid (unused1_any cb n sb pg _ (hext.blk _ _ Hb.out))
      by_cases hbd : pg = n
      · have HBD : Hid (pgGo n L = some k) := Lib.hid (by
          rw [Hq.out, HA.out, if_pos hbd]; simp)
        have e1 : (pg == n) = true := by simpa using hbd
        rw [e1] at Hpl
        clear hbd HA e1
        go_wp2_with (go_at_call 92; refine Hpl.out.mono ?_; rintro e w1 ⟨rfl, he1⟩)
        go_ret
        exact ⟨by rw [HBD.out]; rfl, hext.trans he1⟩
      · have HBD : Hid (pgGo n L = (pgGo n (L.drop (k + 1))).map (· + (k + 1))) := Lib.hid (by
          rw [Hq.out, HA.out, if_neg hbd, Option.map_map]
          congr 1
          funext y
          simp; omega)
        have e1 : (pg == n) = false := by simpa using hbd
        rw [e1] at Hpl
        clear hbd HA e1
        go_wp2_with (go_at_call 92; refine Hpl.out.mono ?_; rintro e w1 ⟨rfl, he1⟩)
        go_roundw
        case rel => exact ⟨k + 1, by omega, by go_num, HBD.out, hext.trans he1⟩
        case measure => simp [intOf]; omega
    · have hltI : decide ((k : Int) < L.length) = false := by simp; omega
      go_wp2
      go_ret
      have := Hq.out
      rw [List.drop_of_length_le (by omega)] at this
      exact ⟨by rw [this]; rfl, hext⟩
set_option maxRecDepth 100000 in
theorem ContainsU_any (p : Option Addr) (cap : Nat) (L : List Ent) (cb : Nat) (n : Int) (w : World) (hs : Nents w p L) (hm : L.length ≤ 1000000) (hb : Blk w cb (.cells #[.int .i64 n] 3)) :
    Calls Tryz.prog 91 #[.slice p L.length cap, .func (.func 92) #[] #[.pointer (some ⟨cb, 0, none⟩)]] w fun e w' => e = .returned (.bool (decide (n ∈ L.map (·.2)))) ∧ Ext w w' := by
  have H := Lib.hid (IndexU_any p cap L cb n w hs hm hb)
  have hd : Hid (decide (0 ≤ idxP (pgGo n L)) = decide (n ∈ L.map (·.2))) := Lib.hid (by
    rw [← pgGo_some]
    cases pgGo n L with
    | none => rfl
    | some i => simp [idxP])
  clear hs hb
  go_enter Tryz.func91, Tryz.ntmps91
  go_wp2_with (go_at_call 126; refine H.out.mono ?_; rintro e w1 ⟨rfl, he1⟩)
  go_ret
  exact ⟨by rw [← hd.out]; rfl, he1⟩
set_option maxRecDepth 100000 in
set_option maxHeartbeats 1000000 in
theorem unused_any (d : DS) (a : Ar) (q : Option Addr) (c : Nat) (p : Option Addr) (m : Nat) (w : World) (hd : keyedB d = true) (hbase : isBaseB a.base = true) (hv : Nents w q a.nd.ents) (hl : a.nd.ents.length ≤ 1000000) :
    Calls Tryz.prog 42 #[.agg #[.int .i64 d.id, .int .i64 d.org, .int .i64 d.format, .int .i64 d.length, .int .i64 d.block, .int .i64 d.keyAt, .int .i64 d.keyLength, .int .i64 d.interval, .int .i64 d.area, .int .i64 d.freeInterval, .int .i64 d.freeArea, .int .i64 d.base, .int .i64 d.altAt, .int .i64 d.altLength, .bool d.unique, .int .i64 d.cls, .string ⟨d.volume.toArray⟩, .string ⟨d.owner.toArray⟩, .int .i64 d.created, .int .i64 d.expires, .bool d.archived], .agg (arC a q c p m)] w fun e w' => e = .returned (.int .i64 (unusedA d a)) ∧ Ext w w' := by
  have k8 : 2 ≤ d.area ∧ d.area ≤ 8 := by
    obtain ⟨_, _, _, _, _, _, _, k8, k9⟩ := keyed_spec hd
    exact ⟨k8, k9⟩
  unfold isBaseB at hbase
  simp only [Bool.and_eq_true, decide_eq_true_eq] at hbase
  obtain ⟨hb1, hb2⟩ := hbase
  obtain ⟨A, hA⟩ := Int.eq_ofNat_of_zero_le (show 0 ≤ d.area by omega)
  have HR : Hid (unusedA d a = unusedL (a.nd.ents.map (·.2)) A (a.base + 1)) := Lib.hid (by unfold unusedA; rw [hA]; rfl)
  have Hv := Lib.hid hv
  have hA8 : A ≤ 8 := by omega
  have HA := Lib.hid hA
  clear hd hv hA k8
  go_enter Tryz.func42, Tryz.ntmps42
  go_upto_region 1 with (fail)
  refine wp_name (fun w0 => Ext w w0 ∧ DsAt w0 w.heap.size d ∧ ArAt w0 (w.heap.size + 1) a q c p m) (ds_ar w d a q c p m) ?_
  rintro w0 ⟨he0, hd0, ha0⟩
  have HE0 := Lib.hid he0
  have Hd0 := Lib.hid hd0
  have Ha0 := Lib.hid ha0
  have Hv0 := Lib.hid (Hv.out.ext he0)
  obtain ⟨e0, e1, e2, e3, e4, la⟩ := ha0.cells
  clear hd0 ha0 he0
  go_upto_region 2 with (fail)
  refine wp_name (fun w1 => Ext w0 w1 ∧ Blk w1 w0.heap.size (.cells #[.int .i64 (a.base + 1)] 3)) ⟨Ext.alloc _ _, Blk.new _ _⟩ ?_
  rintro w1 ⟨he1, hn1⟩
  clear e0 e1 e2 e3 e4 la
  go_loopg [5] A (fun kx x wr => ∃ (k : Nat) (nb : Nat), k ≤ A ∧ A - k ≤ kx ∧ x = .pointer (some ⟨nb, 0, none⟩) ∧ w0.heap.size ≤ nb ∧ Blk wr nb (.cells #[.int .i64 (a.base + 1 + k)] 3) ∧ Ext w0 wr ∧ Hid (unusedL (a.nd.ents.map (·.2)) A (a.base + 1) = unusedL (a.nd.ents.map (·.2)) (A - k) (a.base + 1 + k)))
  case atStart => exact ⟨0, _, Nat.zero_le _, Nat.le_refl _, rfl, Nat.le_refl _, by simpa using hn1, he1, Lib.hid (by simp)⟩
  case round =>
    clear hn1 he1
    obtain ⟨k, nb, hk, hkx, rfl, hnb, hn, hex, hun⟩ := hrel
    have hd2 := Hd0.out.ext hex
    have ha2 := Ha0.out.ext hex
    have d8 := Blk.val hd2 8 _ rfl
    rw [show (#[.int .i64 d.id, .int .i64 d.org, .int .i64 d.format, .int .i64 d.length, .int .i64 d.block, .int .i64 d.keyAt, .int .i64 d.keyLength, .int .i64 d.interval, .int .i64 d.area, .int .i64 d.freeInterval, .int .i64 d.freeArea, .int .i64 d.base, .int .i64 d.altAt, .int .i64 d.altLength, .bool d.unique, .int .i64 d.cls, .string ⟨d.volume.toArray⟩, .string ⟨d.owner.toArray⟩, .int .i64 d.created, .int .i64 d.expires, .bool d.archived] : Array Value)[8] = .int .i64 d.area from rfl, HA.out] at d8
    have ld := Blk.lt hd2
    obtain ⟨e0, e1, e2, e3, e4, la⟩ := ha2.cells
    have n0 := Blk.cell hn
    have ln := Blk.lt hn
    have Hex := Lib.hid hex
    have Hn := Lib.hid hn
    have Ha2 := Lib.hid ha2
    by_cases hlt : k < A
    · have i1 : decide (a.base + 1 + (k : Int) ≤ a.base + (A : Int)) = true := decide_eq_true (by omega)
      have HC := Lib.hid (ContainsU_any q c a.nd.ents nb (a.base + 1 + k) wr (Hv0.out.ext hex) hl hn)
      have e9 : A - k = (A - (k + 1)) + 1 := by omega
      have HU : Hid (unusedL (a.nd.ents.map (·.2)) (A - k) (a.base + 1 + k) = if a.base + 1 + k ∈ a.nd.ents.map (·.2) then unusedL (a.nd.ents.map (·.2)) (A - (k + 1)) (a.base + 1 + (k + 1 : Nat)) else a.base + 1 + k) := Lib.hid (by
        rw [e9, unusedL, show a.base + 1 + (k : Int) + 1 = a.base + 1 + ((k + 1 : Nat) : Int) by push_cast; omega])
      have hbound : a.base + 1 + (k : Int) ≤ 16777216 + 8 := by omega
      clear e9 hd2 ha2 hn hex
      by_cases hm : a.base + 1 + (k : Int) ∈ a.nd.ents.map (·.2)
      · rw [decide_eq_true hm] at HC
        rw [if_pos hm] at HU
        clear hm
        go_upto_region 7 with (go_at_call 91; refine HC.out.mono ?_; rintro e w2 ⟨rfl, he2⟩; have n2 := Blk.cell (he2.blk _ _ Hn.out); have ln2 := Blk.lt (he2.blk _ _ Hn.out))
        go_upto_region 3 with (fail)
        refine wp_name (fun w3 => Ext w2 w3 ∧ Blk w3 w2.heap.size (.cells #[.int .i64 (a.base + 1 + k)] 3)) ⟨Ext.alloc _ _, Blk.new _ _⟩ ?_
        rintro w3 ⟨he3, hn3⟩
        have n3 := Blk.cell hn3
        have f3 := Blk.soft hn3
        have l3 := Blk.lt hn3
        have Hn3 := Lib.hid hn3
        have Hx3 := Lib.hid ((Hex.out.trans he2).trans he3)
        have sz := (Hex.out.trans he2).size
        have eK : a.base + 1 + (k : Int) + 1 = a.base + 1 + ((k + 1 : Nat) : Int) := by push_cast; omega
        have Hc := Lib.hid (show Chg w2.heap.size w3 (w3.setCell ⟨w2.heap.size, 0, none⟩ (.int .i64 (a.base + 1 + (k : Int) + 1))) from Chg.setCell)
        have HB4 := Lib.hid (show Blk (w3.setCell ⟨w2.heap.size, 0, none⟩ (.int .i64 (a.base + 1 + (k : Int) + 1))) w2.heap.size (.cells #[.int .i64 (a.base + 1 + ((k + 1 : Nat) : Int))] 3) by rw [← eK]; exact Blk.put hn3)
        have HR4 := Lib.hid (hun.out.trans HU.out)
        clear eK hn3 he3 he2 n2 ln2 HC HU hun hnb
        go_wp2_with fail
        go_roundg (A - (k + 1))
        case measure => omega
        case rel => exact ⟨k + 1, _, by omega, Nat.le_refl _, rfl, sz, HB4.out, Hc.out.ext Hx3.out sz, HR4⟩
      · rw [decide_eq_false hm] at HC
        rw [if_neg hm] at HU
        clear hm
        go_wp2_with (go_at_call 91; refine HC.out.mono ?_; rintro e w2 ⟨rfl, he2⟩; have n2 := Blk.cell (he2.blk _ _ Hn.out); have ln2 := Blk.lt (he2.blk _ _ Hn.out))
        go_ret
        exact ⟨by rw [HR.out, hun.out, HU.out]; rfl, HE0.out.trans (Hex.out.trans he2)⟩
    · have i1 : decide (a.base + 1 + (k : Int) ≤ a.base + (A : Int)) = false := decide_eq_false (by omega)
      have hkA : A - k = 0 := by omega
      go_wp2
      go_ret
      exact ⟨by rw [HR.out, hun.out, hkA]; rfl, HE0.out.trans Hex.out⟩
end Go.Proofs.YtpefkjhiaflonaaGreat
