/- A part of the proof. -/
import Derived.Test.YtifmbcjbccedfaaGreatDoorAQ
import Derived.Deep.LoopGhost
set_option linter.unusedSimpArgs false
set_option linter.unusedVariables false
namespace Dsd
def pgGo (n : Int) : List Ent → Option Nat
 | [] => none
 | x :: L => if x.2 = n then some 0 else (pgGo n L).map (· + 1)
theorem pgGo_at {n : Int} {L : List Ent} {k : Nat} (h : k < L.length) : pgGo n (L.drop k) = if (entAt L k).2 = n then some 0 else (pgGo n (L.drop (k + 1))).map (· + 1) := by
 have e : entAt L k = L[k] := by simp [entAt, List.getD, h]
 rw [List.drop_eq_getElem_cons h, pgGo, e]
theorem pgGo_some {n : Int} : ∀ {L : List Ent}, (pgGo n L).isSome = decide (n ∈ L.map (·.2))
 | [] => by simp [pgGo]
 | x :: L => by
   rw [pgGo]
   by_cases h : x.2 = n
   · rw [if_pos h]; simp [h]
   · rw [if_neg h]
     have := pgGo_some (n := n) (L := L)
     have h2 : ¬ n = x.2 := fun e => h e.symm
     simp only [Option.isSome_map, this, List.map_cons, List.mem_cons, h2, false_or]
def unusedL (P : List Int) : Nat → Int → Int
 | 0, _ => 0
 | f + 1, n => if n ∈ P then unusedL P f (n + 1) else n
def unusedA (d : DS) (a : Ar) : Int := unusedL (a.nd.ents.map (·.2)) d.area.toNat (a.base + 1)
theorem unusedL_spec {P : List Int} : ∀ {f : Nat} {n : Int}, 1 ≤ n → (unusedL P f n = 0 ∧ ∀ x, n ≤ x → x < n + f → x ∈ P) ∨ (n ≤ unusedL P f n ∧ unusedL P f n < n + f ∧ unusedL P f n ∉ P)
 | 0, n, h => .inl ⟨rfl, fun x h1 h2 => by omega⟩
 | f + 1, n, h => by
   rw [unusedL]
   by_cases hm : n ∈ P
   · rw [if_pos hm]
     rcases unusedL_spec (P := P) (f := f) (n := n + 1) (by omega) with ⟨h1, h2⟩ | ⟨h1, h2, h3⟩
     · refine .inl ⟨h1, fun x h3 h4 => ?_⟩
       by_cases e : x = n
       · rw [e]; exact hm
       · exact h2 x (by omega) (by push_cast at h4; omega)
     · exact .inr ⟨by omega, by push_cast; omega, h3⟩
   · rw [if_neg hm]
     exact .inr ⟨Int.le_refl _, by push_cast; omega, hm⟩
end Dsd
namespace Go.Proofs.YtifmbcjbccedfaaGreatDoor
open Go.RowKit Dsd
set_option maxRecDepth 100000 in
theorem unused1_any (cb : Nat) (n : Int) (sb : List UInt8) (pg : Int) (w : World) (hb : Blk w cb (.cells #[.int .i64 n] 3)) :
   Calls Tryz.prog 114 #[.agg #[.string ⟨sb.toArray⟩, .int .i64 pg], .pointer (some ⟨cb, 0, none⟩)] w fun e w' => e = .returned (.bool (pg == n)) ∧ Ext w w' := by
 have c0 := Blk.cell hb
 have hlt := Blk.lt hb
 have hne : ¬ cb = w.heap.size := by omega
 go_enter Tryz.func114, Tryz.ntmps114
 go_wp2
 go_ret
 exact ⟨rfl, Ext.alloc _ _⟩
def idxP : Option Nat → Int
 | none => -1
 | some i => i
set_option maxRecDepth 100000 in
set_option maxHeartbeats 1000000 in
theorem IndexU_any (p : Option Addr) (cap : Nat) (L : List Ent) (cb : Nat) (n : Int) (w : World) (hs : Nents w p L) (hm : L.length ≤ 1000000) (hb : Blk w cb (.cells #[.int .i64 n] 3)) :
   Calls Tryz.prog 148 #[.slice p L.length cap, .func (.func 114) #[] #[.pointer (some ⟨cb, 0, none⟩)]] w fun e w' => e = .returned (.int .i64 (idxP (pgGo n L))) ∧ Ext w w' := by
 have Hs := Lib.hid hs
 have Hb := Lib.hid hb
 clear hs hb
 go_enter Tryz.func148, Tryz.ntmps148
 go_wp2_with fail
 obtain ⟨wo, rfl⟩ : ∃ wo : World, wo = w := ⟨_, rfl⟩
 go_loopw [8] (fun i wr => ∃ k : Nat, k ≤ L.length ∧ i = .int .i64 k ∧ pgGo n L = (pgGo n (L.drop k)).map (· + k) ∧ Ext wo wr) (fun i _ => L.length - (intOf i).toNat)
 case atStart => exact ⟨0, Nat.zero_le _, rfl, by simp, Ext.refl _⟩
 case round =>
   obtain ⟨k, hk, rfl, hq, hext⟩ := hrel
   have Hq := Lib.hid hq
   clear hq
   by_cases hlt : k < L.length
   · have hltI : (k : Int) < L.length := by omega
     obtain ⟨b, off, rfl, hb, hc⟩ := (Hs.out.ext hext).at k hlt
     obtain ⟨hck, hck1⟩ := hc k hlt
     have HA := Lib.hid (pgGo_at (n := n) hlt)
     clear hc
     generalize entAt L k = x at *
     obtain ⟨sb, pg⟩ := x
     simp only at hck hck1 HA
     have Hpl := Lib.hid (unused1_any cb n sb pg _ (hext.blk _ _ Hb.out))
     by_cases hbd : pg = n
     · have HBD : Hid (pgGo n L = some k) := Lib.hid (by
         rw [Hq.out, HA.out, if_pos hbd]; simp)
       have e1 : (pg == n) = true := by simpa using hbd
       rw [e1] at Hpl
       clear hbd HA e1
       go_wp2_with (go_at_call 114; refine Hpl.out.mono ?_; rintro e w1 ⟨rfl, he1⟩)
       go_ret
       exact ⟨by rw [HBD.out]; rfl, hext.trans he1⟩
     · have HBD : Hid (pgGo n L = (pgGo n (L.drop (k + 1))).map (· + (k + 1))) := Lib.hid (by
         rw [Hq.out, HA.out, if_neg hbd, Option.map_map]
         congr 1
         funext y
         simp; omega)
       have e1 : (pg == n) = false := by simpa using hbd
       rw [e1] at Hpl
       clear hbd HA e1
       go_wp2_with (go_at_call 114; refine Hpl.out.mono ?_; rintro e w1 ⟨rfl, he1⟩)
       go_roundw
       case rel => exact ⟨k + 1, by omega, by go_num, HBD.out, hext.trans he1⟩
       case measure => simp [intOf]; omega
   · have hltI : decide ((k : Int) < L.length) = false := by simp; omega
     go_wp2
     go_ret
     have := Hq.out
     rw [List.drop_of_length_le (by omega)] at this
     exact ⟨by rw [this]; rfl, hext⟩
set_option maxRecDepth 100000 in
theorem ContainsU_any (p : Option Addr) (cap : Nat) (L : List Ent) (cb : Nat) (n : Int) (w : World) (hs : Nents w p L) (hm : L.length ≤ 1000000) (hb : Blk w cb (.cells #[.int .i64 n] 3)) :
   Calls Tryz.prog 113 #[.slice p L.length cap, .func (.func 114) #[] #[.pointer (some ⟨cb, 0, none⟩)]] w fun e w' => e = .returned (.bool (decide (n ∈ L.map (·.2)))) ∧ Ext w w' := by
 have H := Lib.hid (IndexU_any p cap L cb n w hs hm hb)
 have hd : Hid (decide (0 ≤ idxP (pgGo n L)) = decide (n ∈ L.map (·.2))) := Lib.hid (by
   rw [← pgGo_some]
   cases pgGo n L with
   | none => rfl
   | some i => simp [idxP])
 clear hs hb
 go_enter Tryz.func113, Tryz.ntmps113
 go_wp2_with (go_at_call 148; refine H.out.mono ?_; rintro e w1 ⟨rfl, he1⟩)
 go_ret
 exact ⟨by rw [← hd.out]; rfl, he1⟩
set_option maxRecDepth 100000 in
set_option maxHeartbeats 1000000 in
theorem unused_any (d : DS) (a : Ar) (q : Option Addr) (c : Nat) (p : Option Addr) (m : Nat) (w : World) (hd : keyedB d = true) (hbase : isBaseB a.base = true) (hv : Nents w q a.nd.ents) (hl : a.nd.ents.length ≤ 1000000) :
   Calls Tryz.prog 60 #[.agg #[.int .i64 d.id, .int .i64 d.org, .int .i64 d.format, .int .i64 d.length, .int .i64 d.block, .int .i64 d.keyAt, .int .i64 d.keyLength, .int .i64 d.interval, .int .i64 d.area, .int .i64 d.freeInterval, .int .i64 d.freeArea, .int .i64 d.base, .int .i64 d.altAt, .int .i64 d.altLength, .bool d.unique, .int .i64 d.cls, .string ⟨d.volume.toArray⟩, .string ⟨d.owner.toArray⟩, .int .i64 d.created, .int .i64 d.expires, .bool d.archived], .agg (arC a q c p m)] w fun e w' => e = .returned (.int .i64 (unusedA d a)) ∧ Ext w w' := by
 have k8 : 2 ≤ d.area ∧ d.area ≤ 8 := by
   obtain ⟨_, _, _, _, _, _, _, k8, k9⟩ := keyed_spec hd
   exact ⟨k8, k9⟩
 unfold isBaseB at hbase
 simp only [Bool.and_eq_true, decide_eq_true_eq] at hbase
 obtain ⟨hb1, hb2⟩ := hbase
 obtain ⟨A, hA⟩ := Int.eq_ofNat_of_zero_le (show 0 ≤ d.area by omega)
 have HR : Hid (unusedA d a = unusedL (a.nd.ents.map (·.2)) A (a.base + 1)) := Lib.hid (by unfold unusedA; rw [hA]; rfl)
 have Hv := Lib.hid hv
 have hA8 : A ≤ 8 := by omega
 have HA := Lib.hid hA
 clear hd hv hA k8
 go_enter Tryz.func60, Tryz.ntmps60
 go_upto_region 1 with (fail)
 refine wp_name (fun w0 => Ext w w0 ∧ DsAt w0 w.heap.size d ∧ ArAt w0 (w.heap.size + 1) a q c p m) (ds_ar w d a q c p m) ?_
 rintro w0 ⟨he0, hd0, ha0⟩
 have HE0 := Lib.hid he0
 have Hd0 := Lib.hid hd0
 have Ha0 := Lib.hid ha0
 have Hv0 := Lib.hid (Hv.out.ext he0)
 obtain ⟨e0, e1, e2, e3, e4, la⟩ := ha0.cells
 clear hd0 ha0 he0
 go_upto_region 2 with (fail)
 refine wp_name (fun w1 => Ext w0 w1 ∧ Blk w1 w0.heap.size (.cells #[.int .i64 (a.base + 1)] 3)) ⟨Ext.alloc _ _, Blk.new _ _⟩ ?_
 rintro w1 ⟨he1, hn1⟩
 clear e0 e1 e2 e3 e4 la
 go_loopg [5] A (fun kx x wr => ∃ (k : Nat) (nb : Nat), k ≤ A ∧ A - k ≤ kx ∧ x = .pointer (some ⟨nb, 0, none⟩) ∧ w0.heap.size ≤ nb ∧ Blk wr nb (.cells #[.int .i64 (a.base + 1 + k)] 3) ∧ Ext w0 wr ∧ Hid (unusedL (a.nd.ents.map (·.2)) A (a.base + 1) = unusedL (a.nd.ents.map (·.2)) (A - k) (a.base + 1 + k)))
 case atStart => exact ⟨0, _, Nat.zero_le _, Nat.le_refl _, rfl, Nat.le_refl _, by simpa using hn1, he1, Lib.hid (by simp)⟩
 case round =>
   clear hn1 he1
   obtain ⟨k, nb, hk, hkx, rfl, hnb, hn, hex, hun⟩ := hrel
   have hd2 := Hd0.out.ext hex
   have ha2 := Ha0.out.ext hex
   have d8 := Blk.val hd2 8 _ rfl
   rw [show (#[.int .i64 d.id, .int .i64 d.org, .int .i64 d.format, .int .i64 d.length, .int .i64 d.block, .int .i64 d.keyAt, .int .i64 d.keyLength, .int .i64 d.interval, .int .i64 d.area, .int .i64 d.freeInterval, .int .i64 d.freeArea, .int .i64 d.base, .int .i64 d.altAt, .int .i64 d.altLength, .bool d.unique, .int .i64 d.cls, .string ⟨d.volume.toArray⟩, .string ⟨d.owner.toArray⟩, .int .i64 d.created, .int .i64 d.expires, .bool d.archived] : Array Value)[8] = .int .i64 d.area from rfl, HA.out] at d8
   have ld := Blk.lt hd2
   obtain ⟨e0, e1, e2, e3, e4, la⟩ := ha2.cells
   have n0 := Blk.cell hn
   have ln := Blk.lt hn
   have Hex := Lib.hid hex
   have Hn := Lib.hid hn
   have Ha2 := Lib.hid ha2
   by_cases hlt : k < A
   · have i1 : decide (a.base + 1 + (k : Int) ≤ a.base + (A : Int)) = true := decide_eq_true (by omega)
     have HC := Lib.hid (ContainsU_any q c a.nd.ents nb (a.base + 1 + k) wr (Hv0.out.ext hex) hl hn)
     have e9 : A - k = (A - (k + 1)) + 1 := by omega
     have HU : Hid (unusedL (a.nd.ents.map (·.2)) (A - k) (a.base + 1 + k) = if a.base + 1 + k ∈ a.nd.ents.map (·.2) then unusedL (a.nd.ents.map (·.2)) (A - (k + 1)) (a.base + 1 + (k + 1 : Nat)) else a.base + 1 + k) := Lib.hid (by
       rw [e9, unusedL, show a.base + 1 + (k : Int) + 1 = a.base + 1 + ((k + 1 : Nat) : Int) by push_cast; omega])
     have hbound : a.base + 1 + (k : Int) ≤ 16777216 + 8 := by omega
     clear e9 hd2 ha2 hn hex
     by_cases hm : a.base + 1 + (k : Int) ∈ a.nd.ents.map (·.2)
     · rw [decide_eq_true hm] at HC
       rw [if_pos hm] at HU
       clear hm
       go_upto_region 7 with (go_at_call 113; refine HC.out.mono ?_; rintro e w2 ⟨rfl, he2⟩; have n2 := Blk.cell (he2.blk _ _ Hn.out); have ln2 := Blk.lt (he2.blk _ _ Hn.out))
       go_upto_region 3 with (fail)
       refine wp_name (fun w3 => Ext w2 w3 ∧ Blk w3 w2.heap.size (.cells #[.int .i64 (a.base + 1 + k)] 3)) ⟨Ext.alloc _ _, Blk.new _ _⟩ ?_
       rintro w3 ⟨he3, hn3⟩
       have n3 := Blk.cell hn3
       have f3 := Blk.soft hn3
       have l3 := Blk.lt hn3
       have Hn3 := Lib.hid hn3
       have Hx3 := Lib.hid ((Hex.out.trans he2).trans he3)
       have sz := (Hex.out.trans he2).size
       have eK : a.base + 1 + (k : Int) + 1 = a.base + 1 + ((k + 1 : Nat) : Int) := by push_cast; omega
       have Hc := Lib.hid (show Chg w2.heap.size w3 (w3.setCell ⟨w2.heap.size, 0, none⟩ (.int .i64 (a.base + 1 + (k : Int) + 1))) from Chg.setCell)
       have HB4 := Lib.hid (show Blk (w3.setCell ⟨w2.heap.size, 0, none⟩ (.int .i64 (a.base + 1 + (k : Int) + 1))) w2.heap.size (.cells #[.int .i64 (a.base + 1 + ((k + 1 : Nat) : Int))] 3) by rw [← eK]; exact Blk.put hn3)
       have HR4 := Lib.hid (hun.out.trans HU.out)
       clear eK hn3 he3 he2 n2 ln2 HC HU hun hnb
       go_wp2_with fail
       go_roundg (A - (k + 1))
       case measure => omega
       case rel => exact ⟨k + 1, _, by omega, Nat.le_refl _, rfl, sz, HB4.out, Hc.out.ext Hx3.out sz, HR4⟩
     · rw [decide_eq_false hm] at HC
       rw [if_neg hm] at HU
       clear hm
       go_wp2_with (go_at_call 113; refine HC.out.mono ?_; rintro e w2 ⟨rfl, he2⟩; have n2 := Blk.cell (he2.blk _ _ Hn.out); have ln2 := Blk.lt (he2.blk _ _ Hn.out))
       go_ret
       exact ⟨by rw [HR.out, hun.out, HU.out]; rfl, HE0.out.trans (Hex.out.trans he2)⟩
   · have i1 : decide (a.base + 1 + (k : Int) ≤ a.base + (A : Int)) = false := decide_eq_false (by omega)
     have hkA : A - k = 0 := by omega
     go_wp2
     go_ret
     exact ⟨by rw [HR.out, hun.out, hkA]; rfl, HE0.out.trans Hex.out⟩
end Go.Proofs.YtifmbcjbccedfaaGreatDoor
namespace Go.Proofs.YtifmbcjbccedfaaGreatDoor
open Go.RowKit Dsd
theorem fitsA_any (q : Option Addr) (c n : Nat) (L : Recs) (size : Int) (W : World) (h : Strs W q L) (hn : L.length = n) (h1 : n ≤ c) (h2 : c ≤ maxLen) (hm : Small L) (b : Bool) (hb : fitsB size L = b) : Calls Tryz.prog 38 #[.int .i64 size, .slice q n c] W fun e w' => e = .returned (.bool b) ∧ Ext W w' := by
 refine (Fits_any q c n L size W h hn h1 h2 hm).mono ?_
 rintro e w' ⟨rfl, he⟩
 subst hb
 exact ⟨rfl, he⟩
theorem _root_.Dsd.Strs.take {w : World} {p : Option Addr} {L : Recs} (h : Strs w p L) (k : Nat) : Strs w p (L.take k) := by
 unfold Strs at *
 rw [List.map_take]
 exact Cells.take h k
def absD (x : Int) : Int := if x < -x then -x else x
def midSt (size : Int) (L : Recs) : Nat → Nat × Int
 | 0 => (0, 0)
 | k + 1 => if k = 0 then (0, 0) else
   let s := midSt size L k
   if fitsB size (L.take k) = true ∧ fitsB size (L.drop k) = true then
     let x := absD ((sizeL (L.take k) : Int) - sizeL (L.drop k))
     if s.1 = 0 ∨ x < s.2 then (k, x) else s
   else s
def midD (size : Int) (L : Recs) : Nat := (midSt size L L.length).1
def Mid (size : Int) (L : Recs) (m : Nat) : Prop := fitsB size (L.take m) = true ∧ fitsB size (L.drop m) = true
set_option maxRecDepth 100000 in
set_option maxHeartbeats 2000000 in
theorem middle_any (d : DS) (q : Option Addr) (c : Nat) (L : Recs) (w : World) (hs : Strs w q L) (hlc : L.length ≤ c) (hcm : c ≤ maxLen) (hm : Small L) (hex : ∃ m, 1 ≤ m ∧ m < L.length ∧ Mid d.interval L m) :
   Calls Tryz.prog 61 #[.agg #[.int .i64 d.id, .int .i64 d.org, .int .i64 d.format, .int .i64 d.length, .int .i64 d.block, .int .i64 d.keyAt, .int .i64 d.keyLength, .int .i64 d.interval, .int .i64 d.area, .int .i64 d.freeInterval, .int .i64 d.freeArea, .int .i64 d.base, .int .i64 d.altAt, .int .i64 d.altLength, .bool d.unique, .int .i64 d.cls, .string ⟨d.volume.toArray⟩, .string ⟨d.owner.toArray⟩, .int .i64 d.created, .int .i64 d.expires, .bool d.archived], .slice q L.length c] w fun e w' => (∃ m : Nat, e = .returned (.int .i64 m) ∧ 1 ≤ m ∧ m < L.length ∧ Mid d.interval L m ∧ m = midD d.interval L) ∧ Ext w w' := by
 have hl2 : 2 ≤ L.length := by obtain ⟨m, h1, h2, _⟩ := hex; omega
 have hl6 : L.length ≤ 1000000 := hm.1
 have Hs := Lib.hid hs
 have Hex := Lib.hid hex
 have Hm := Lib.hid hm
 have HcM := Lib.hid hcm
 obtain ⟨b, off, rfl, _, _⟩ := hs.at 0 (by omega)
 clear hs hex hm hcm
 go_enter Tryz.func61, Tryz.ntmps61
 go_upto_region 1 with (fail)
 refine wp_name (fun w0 => Ext w w0 ∧ DsAt w0 w.heap.size d) ⟨Ext.alloc _ _, Blk.new w _⟩ ?_
 rintro w0 ⟨he0, hd0⟩
 have Hd0 := Lib.hid hd0
 have Hs0 := Lib.hid (Hs.out.ext he0)
 have HE0 := Lib.hid he0
 clear hd0 he0
 go_wp2_with fail
 go_loopw [5, 6, 7] (fun bv lv kv wr => ∃ (k B : Nat) (z : Int), 1 ≤ k ∧ k ≤ L.length ∧ kv = .int .i64 k ∧ bv = .int .i64 B ∧ lv = .int .i64 z ∧ Hid ((B = 0 ∧ ∀ m, 1 ≤ m → m < k → ¬ Mid d.interval L m) ∨ (1 ≤ B ∧ B < k ∧ Mid d.interval L B)) ∧ Ext w0 wr ∧ Hid (midSt d.interval L k = (B, z))) (fun _ _ kv _ => L.length - (intOf kv).toNat)
 case atStart => exact ⟨1, 0, 0, Nat.le_refl _, by omega, rfl, rfl, rfl, Lib.hid (.inl ⟨rfl, fun m h1 h2 => by omega⟩), Ext.refl _, Lib.hid rfl⟩
 case round =>
   obtain ⟨k, B, z, hk1, hk, rfl, rfl, rfl, hI, hx, hSt⟩ := hrel
   have HS9 : Hid (midSt d.interval L (k + 1) = if fitsB d.interval (L.take k) = true ∧ fitsB d.interval (L.drop k) = true then (if B = 0 ∨ absD ((sizeL (L.take k) : Int) - sizeL (L.drop k)) < z then (k, absD ((sizeL (L.take k) : Int) - sizeL (L.drop k))) else (B, z)) else (B, z)) := Lib.hid (by
     rw [midSt, if_neg (by omega), hSt.out])
   by_cases hlt : k < L.length
   · have hltI : (k : Int) < L.length := by omega
     have hkc : k ≤ c := by omega
     have Hx := Lib.hid hx
     have hdr := Hd0.out.ext hx
     have d7 := Blk.val hdr 7 _ rfl
     have ld := Blk.lt hdr
     have hck : ¬ c = k := by omega
     have hsr := Hs0.out.ext hx
     have HF1 := Lib.hid (fun W (e : Ext wr W) b1 hb => fitsA_any (some ⟨b, off, none⟩) c k (L.take k) d.interval W ((hsr.take k).ext e) (by rw [List.length_take]; omega) hkc HcM.out ⟨by rw [List.length_take]; omega, fun s hs => Hm.out.2 s (List.mem_of_mem_take hs)⟩ b1 hb)
     have HF2 := Lib.hid (fun W (e : Ext wr W) b1 hb => fitsA_any (some ⟨b, off + k, none⟩) (c - k) (L.length - k) (L.drop k) d.interval W ((hsr.drop k).ext e) List.length_drop (by omega) (by have := HcM.out; omega) ⟨by rw [List.length_drop]; omega, fun s hs => Hm.out.2 s (List.mem_of_mem_drop hs)⟩ b1 hb)
     have HM : Hid (∀ b1 b2, fitsB d.interval (L.take k) = b1 → fitsB d.interval (L.drop k) = b2 → (b1 && b2) = false → (B = 0 ∧ ∀ m, 1 ≤ m → m < k + 1 → ¬ Mid d.interval L m) ∨ (1 ≤ B ∧ B < k + 1 ∧ Mid d.interval L B)) := Lib.hid (fun b1 b2 h1 h2 h3 => by
       rcases hI.out with ⟨h4, h5⟩ | ⟨h4, h5, h6⟩
       · refine .inl ⟨h4, fun m g1 g2 => ?_⟩
         by_cases hmk : m = k
         · subst hmk
           rintro ⟨g3, g4⟩
           rw [g3] at h1; rw [g4] at h2
           subst h1; subst h2
           simp at h3
         · exact h5 m g1 (by omega)
       · exact .inr ⟨h4, by omega, h6⟩)
     clear hsr hx hdr
     go_upto_region 5 with (fail)
     cases hb1 : fitsB d.interval (L.take k)
     · have H1 := Lib.hid (fun W e => HF1.out W e _ hb1)
       have HN := Lib.hid (HM.out _ _ hb1 rfl rfl)
       have HZ := Lib.hid (HS9.out.trans (if_neg (by rw [hb1]; simp)))
       clear hb1 HM HS9
       refine wp_region_mk 200 (Ext.refl wr) (by kernel_rfl) (by kernel_rfl) (by kernel_rfl) ?_
       simp only [List.take_succ_cons, List.take_zero, List.take_nil, List.drop_succ_cons, List.drop_zero, List.drop_nil, List.map_cons, List.map_nil]
       repeat (first
         | (refine wpML_det (o := ⟨some 20, _, _, _, _, _⟩) (v := .bool false) rfl ?_ ?_
            · intro a w' he hr K hK
              simp [Reads, Oper.looksAt, Op.operands, Call.operands, factAt, Is] at hr
              go_simp
              refine (H1.out _ he).mono ?_
              rintro e w'' ⟨rfl, he''⟩
              exact hK _ he''
            simp only [setL, List.set_cons_succ, List.set_cons_zero])
         | (refine wpML_skip rfl rfl rfl rfl ?_
            simp only [setL, List.set_cons_succ, List.set_cons_zero])
         | (apply wpML_detg rfl rfl rfl rfl
            · intro a w' he hr K hK
              simp [Reads, Oper.looksAt, Op.operands, Call.operands, factAt, Is] at hr
              have hx := he.cell
              go_simp
              try go_bits
              try (rw [if_neg (by omega)]; go_simp)
              first
                | exact hK _ (Ext.refl _)
            simp only [setL, List.set_cons_succ, List.set_cons_zero])
         | (refine wpML_move _ _ rfl (by first | exact .inl rfl | exact .inr rfl) rfl (by first | exact Is.stable _ | exact AppF.stable _ | exact WrF.stable _ | exact PtrF.stable _ _ | exact IfcF.stable (Fresh.stable _ _ _) _ | exact PairF.stable (RowF.stable _ _ _ _) _ | exact RowF.stable _ _ _ _ | exact Fresh.stable _ _ _) ?_
            simp only [setL, List.set_cons_succ, List.set_cons_zero, List.getD_cons_succ, List.getD_cons_zero])
         | (refine wpML_moveC _ rfl (by first | exact .inl rfl | exact .inr rfl) ?_
            simp only [setL, List.set_cons_succ, List.set_cons_zero])
         | (apply wpML_det rfl
            · intro a w' he hr K hK
              simp [Reads, Oper.looksAt, Op.operands, Call.operands, factAt, Is] at hr
              have hx := he.cell
              go_simp
              try go_bits
              try (rw [if_neg (by omega)]; go_simp)
              first
                | exact hK _ (Ext.refl _)
            simp only [setL, List.set_cons_succ, List.set_cons_zero])
         | (apply wpML_det rfl
            · intro a w' he hr K hK
              simp [Reads, Oper.looksAt, Op.operands, Call.operands, factAt, Fresh] at hr
              obtain ⟨b, hr1, hr2⟩ := hr
              go_simp
              exact hK _ (Ext.refl _)
            simp only [setL, List.set_cons_succ, List.set_cons_zero]))
       intro w2 he2
       repeat (first | with_reducible refine rest_is _ _ _ _ ?_ | (with_reducible refine rest_fact _ _ _ _ ?_; intro _ _) | with_reducible refine rest_end _ _ ?_)
       simp only [List.reverse_cons, List.reverse_nil, List.nil_append, List.cons_append]
       clear hltI hkc
       go_wp2_with fail
       go_roundw
       case rel => exact ⟨k + 1, B, z, by omega, by omega, by go_num, rfl, rfl, Lib.hid HN.out, Hx.out.trans he2, Lib.hid HZ.out⟩
       case measure => simp [intOf]; omega
     · cases hb2 : fitsB d.interval (L.drop k)
       · have H1 := Lib.hid (fun W e => HF1.out W e _ hb1)
         have H2 := Lib.hid (fun W e => HF2.out W e _ hb2)
         have HN := Lib.hid (HM.out _ _ hb1 hb2 rfl)
         have HZ := Lib.hid (HS9.out.trans (if_neg (by rw [hb2]; simp)))
         clear hb1 hb2 HM HS9
         refine wp_region_mk 200 (Ext.refl wr) (by kernel_rfl) (by kernel_rfl) (by kernel_rfl) ?_
         simp only [List.take_succ_cons, List.take_zero, List.take_nil, List.drop_succ_cons, List.drop_zero, List.drop_nil, List.map_cons, List.map_nil]
         repeat (first
           | (refine wpML_det (o := ⟨some 20, _, _, _, _, _⟩) (v := .bool true) rfl ?_ ?_
              · intro a w' he hr K hK
                simp [Reads, Oper.looksAt, Op.operands, Call.operands, factAt, Is] at hr
                go_simp
                refine (H1.out _ he).mono ?_
                rintro e w'' ⟨rfl, he''⟩
                exact hK _ he''
              simp only [setL, List.set_cons_succ, List.set_cons_zero])
           | (refine wpML_detg (o := ⟨some 28, _, _, _, _, _⟩) (x := .bool false) rfl rfl rfl rfl ?_ ?_
              · intro a w' he hr K hK
                simp [Reads, Oper.looksAt, Op.operands, Call.operands, factAt, Is] at hr
                go_simp
                refine (H2.out _ he).mono ?_
                rintro e w'' ⟨rfl, he''⟩
                exact hK _ he''
              simp only [setL, List.set_cons_succ, List.set_cons_zero])
           | (refine wpML_skip rfl rfl rfl rfl ?_
              simp only [setL, List.set_cons_succ, List.set_cons_zero])
           | (apply wpML_detg rfl rfl rfl rfl
              · intro a w' he hr K hK
                simp [Reads, Oper.looksAt, Op.operands, Call.operands, factAt, Is] at hr
                have hx := he.cell
                go_simp
                try go_bits
                try (rw [if_neg (by omega)]; go_simp)
                first
                  | exact hK _ (Ext.refl _)
              simp only [setL, List.set_cons_succ, List.set_cons_zero])
           | (refine wpML_move _ _ rfl (by first | exact .inl rfl | exact .inr rfl) rfl (by first | exact Is.stable _ | exact AppF.stable _ | exact WrF.stable _ | exact PtrF.stable _ _ | exact IfcF.stable (Fresh.stable _ _ _) _ | exact PairF.stable (RowF.stable _ _ _ _) _ | exact RowF.stable _ _ _ _ | exact Fresh.stable _ _ _) ?_
              simp only [setL, List.set_cons_succ, List.set_cons_zero, List.getD_cons_succ, List.getD_cons_zero])
           | (refine wpML_moveC _ rfl (by first | exact .inl rfl | exact .inr rfl) ?_
              simp only [setL, List.set_cons_succ, List.set_cons_zero])
           | (apply wpML_det rfl
              · intro a w' he hr K hK
                simp [Reads, Oper.looksAt, Op.operands, Call.operands, factAt, Is] at hr
                have hx := he.cell
                go_simp
                try go_bits
                try (rw [if_neg (by omega)]; go_simp)
                first
                  | exact hK _ (Ext.refl _)
              simp only [setL, List.set_cons_succ, List.set_cons_zero])
           | (apply wpML_det rfl
              · intro a w' he hr K hK
                simp [Reads, Oper.looksAt, Op.operands, Call.operands, factAt, Fresh] at hr
                obtain ⟨b, hr1, hr2⟩ := hr
                go_simp
                exact hK _ (Ext.refl _)
              simp only [setL, List.set_cons_succ, List.set_cons_zero]))
         intro w2 he2
         repeat (first | with_reducible refine rest_is _ _ _ _ ?_ | (with_reducible refine rest_fact _ _ _ _ ?_; intro _ _) | with_reducible refine rest_end _ _ ?_)
         simp only [List.reverse_cons, List.reverse_nil, List.nil_append, List.cons_append]
         clear hltI hkc
         go_wp2_with fail
         go_roundw
         case rel => exact ⟨k + 1, B, z, by omega, by omega, by go_num, rfl, rfl, Lib.hid HN.out, Hx.out.trans he2, Lib.hid HZ.out⟩
         case measure => simp [intOf]; omega
       · have H1 := Lib.hid (fun W e => HF1.out W e _ hb1)
         have H2 := Lib.hid (fun W e => HF2.out W e _ hb2)
         have HN : Hid (Mid d.interval L k) := Lib.hid ⟨hb1, hb2⟩
         have HZ := Lib.hid (HS9.out.trans (if_pos ⟨hb1, hb2⟩))
         clear HS9
         have hz1 := (fits_spec hb1).2.2
         have hz2 := (fits_spec hb2).2.2
         have hz3 := isSize_le (fits_spec hb1).1
         clear HM
         refine wp_region_mk 200 (Ext.refl wr) (by kernel_rfl) (by kernel_rfl) (by kernel_rfl) ?_
         simp only [List.take_succ_cons, List.take_zero, List.take_nil, List.drop_succ_cons, List.drop_zero, List.drop_nil, List.map_cons, List.map_nil]
         repeat (first
           | (refine wpML_det (o := ⟨some 20, _, _, _, _, _⟩) (v := .bool true) rfl ?_ ?_
              · intro a w' he hr K hK
                simp [Reads, Oper.looksAt, Op.operands, Call.operands, factAt, Is] at hr
                go_simp
                refine (H1.out _ he).mono ?_
                rintro e w'' ⟨rfl, he''⟩
                exact hK _ he''
              simp only [setL, List.set_cons_succ, List.set_cons_zero])
           | (refine wpML_detg (o := ⟨some 28, _, _, _, _, _⟩) (x := .bool true) rfl rfl rfl rfl ?_ ?_
              · intro a w' he hr K hK
                simp [Reads, Oper.looksAt, Op.operands, Call.operands, factAt, Is] at hr
                go_simp
                refine (H2.out _ he).mono ?_
                rintro e w'' ⟨rfl, he''⟩
                exact hK _ he''
              simp only [setL, List.set_cons_succ, List.set_cons_zero])
           | (refine wpML_skip rfl rfl rfl rfl ?_
              simp only [setL, List.set_cons_succ, List.set_cons_zero])
           | (apply wpML_detg rfl rfl rfl rfl
              · intro a w' he hr K hK
                simp [Reads, Oper.looksAt, Op.operands, Call.operands, factAt, Is] at hr
                have hx := he.cell
                go_simp
                try go_bits
                try (rw [if_neg (by omega)]; go_simp)
                first
                  | exact hK _ (Ext.refl _)
              simp only [setL, List.set_cons_succ, List.set_cons_zero])
           | (refine wpML_move _ _ rfl (by first | exact .inl rfl | exact .inr rfl) rfl (by first | exact Is.stable _ | exact AppF.stable _ | exact WrF.stable _ | exact PtrF.stable _ _ | exact IfcF.stable (Fresh.stable _ _ _) _ | exact PairF.stable (RowF.stable _ _ _ _) _ | exact RowF.stable _ _ _ _ | exact Fresh.stable _ _ _) ?_
              simp only [setL, List.set_cons_succ, List.set_cons_zero, List.getD_cons_succ, List.getD_cons_zero])
           | (refine wpML_moveC _ rfl (by first | exact .inl rfl | exact .inr rfl) ?_
              simp only [setL, List.set_cons_succ, List.set_cons_zero])
           | (apply wpML_det rfl
              · intro a w' he hr K hK
                simp [Reads, Oper.looksAt, Op.operands, Call.operands, factAt, Is] at hr
                have hx := he.cell
                go_simp
                try go_bits
                try (rw [if_neg (by omega)]; go_simp)
                first
                  | exact hK _ (Ext.refl _)
              simp only [setL, List.set_cons_succ, List.set_cons_zero])
           | (apply wpML_det rfl
              · intro a w' he hr K hK
                simp [Reads, Oper.looksAt, Op.operands, Call.operands, factAt, Fresh] at hr
                obtain ⟨b, hr1, hr2⟩ := hr
                go_simp
                exact hK _ (Ext.refl _)
              simp only [setL, List.set_cons_succ, List.set_cons_zero]))
         intro w2 he2
         repeat (first | with_reducible refine rest_is _ _ _ _ ?_ | (with_reducible refine rest_fact _ _ _ _ ?_; intro _ _) | with_reducible refine rest_end _ _ ?_)
         simp only [List.reverse_cons, List.reverse_nil, List.nil_append, List.cons_append]
         have hsr := Hs0.out.ext (Hx.out.trans he2)
         have HS1 := Lib.hid (fun W (e : Ext w2 W) => Size_any (some ⟨b, off, none⟩) c k (L.take k) W ((hsr.take k).ext e) (by rw [List.length_take]; omega) hkc HcM.out ⟨by rw [List.length_take]; omega, fun s hs => Hm.out.2 s (List.mem_of_mem_take hs)⟩)
         have HS2 := Lib.hid (fun W (e : Ext w2 W) => Size_any (some ⟨b, off + k, none⟩) (c - k) (L.length - k) (L.drop k) W ((hsr.drop k).ext e) List.length_drop (by omega) (by have := HcM.out; omega) ⟨by rw [List.length_drop]; omega, fun s hs => Hm.out.2 s (List.mem_of_mem_drop hs)⟩)
         generalize sizeL (L.take k) = s1 at *
         generalize sizeL (L.drop k) = s2 at *
         have Hx2 := Lib.hid (Hx.out.trans he2)
         clear hsr he2 hb1 hb2 H1 H2 HF1 HF2 Hx
         go_upto_region 6 with (fail)
         refine wp_region_mk 200 (Ext.refl w2) (by kernel_rfl) (by kernel_rfl) (by kernel_rfl) ?_
         simp only [List.take_succ_cons, List.take_zero, List.take_nil, List.drop_succ_cons, List.drop_zero, List.drop_nil, List.map_cons, List.map_nil]
         repeat (first
           | (refine wpML_det (o := ⟨some 34, _, _, _, _, _⟩) (v := .int .i64 (s1 : Nat)) rfl ?_ ?_
              · intro a w' he hr K hK
                simp [Reads, Oper.looksAt, Op.operands, Call.operands, factAt, Is] at hr
                go_simp
                refine (HS1.out _ he).mono ?_
                rintro e w'' ⟨rfl, he''⟩
                exact hK _ he''
              simp only [setL, List.set_cons_succ, List.set_cons_zero])
           | (refine wpML_det (o := ⟨some 38, _, _, _, _, _⟩) (v := .int .i64 (s2 : Nat)) rfl ?_ ?_
              · intro a w' he hr K hK
                simp [Reads, Oper.looksAt, Op.operands, Call.operands, factAt, Is] at hr
                go_simp
                refine (HS2.out _ he).mono ?_
                rintro e w'' ⟨rfl, he''⟩
                exact hK _ he''
              simp only [setL, List.set_cons_succ, List.set_cons_zero])
           | (refine wpML_move _ _ rfl (by first | exact .inl rfl | exact .inr rfl) rfl (by first | exact Is.stable _ | exact AppF.stable _ | exact WrF.stable _ | exact PtrF.stable _ _ | exact IfcF.stable (Fresh.stable _ _ _) _ | exact PairF.stable (RowF.stable _ _ _ _) _ | exact RowF.stable _ _ _ _ | exact Fresh.stable _ _ _) ?_
              simp only [setL, List.set_cons_succ, List.set_cons_zero, List.getD_cons_succ, List.getD_cons_zero])
           | (refine wpML_moveC _ rfl (by first | exact .inl rfl | exact .inr rfl) ?_
              simp only [setL, List.set_cons_succ, List.set_cons_zero])
           | (apply wpML_det rfl
              · intro a w' he hr K hK
                simp [Reads, Oper.looksAt, Op.operands, Call.operands, factAt, Is] at hr
                have hx := he.cell
                go_simp
                try go_bits
                try (rw [if_neg (by omega)]; go_simp)
                first
                  | exact hK _ (Ext.refl _)
              simp only [setL, List.set_cons_succ, List.set_cons_zero])
           | (apply wpML_det rfl
              · intro a w' he hr K hK
                simp [Reads, Oper.looksAt, Op.operands, Call.operands, factAt, Fresh] at hr
                obtain ⟨b, hr1, hr2⟩ := hr
                go_simp
                exact hK _ (Ext.refl _)
              simp only [setL, List.set_cons_succ, List.set_cons_zero]))
         intro w2 he2
         repeat (first | with_reducible refine rest_is _ _ _ _ ?_ | (with_reducible refine rest_fact _ _ _ _ ?_; intro _ _) | with_reducible refine rest_end _ _ ?_)
         simp only [List.reverse_cons, List.reverse_nil, List.nil_append, List.cons_append]
         have hs12 : (s1 : Int) ≤ 512 ∧ (s2 : Int) ≤ 512 := by omega
         have Hx3 := Lib.hid (Hx2.out.trans he2)
         obtain ⟨hs1, hs2⟩ := hs12
         clear hz1 hz2 hz3 HS1 HS2 Hx2 he2
         rcases Nat.eq_zero_or_pos B with hB | hB
         · have b0 : ((B : Int) == 0) = true := by rw [hB]; rfl
           go_wp2_with fail
           go_roundw
           case rel => exact ⟨k + 1, k, _, by omega, by omega, by go_num, rfl, rfl, Lib.hid (.inr ⟨hk1, by omega, HN.out⟩), Hx3.out, Lib.hid (HZ.out.trans (by unfold absD; simp_all))⟩
           case measure => simp [intOf]; omega
         · have b0 : ((B : Int) == 0) = false := beq_eq_false_iff_ne.2 (by omega)
           have HB := Lib.hid (show 1 ≤ B ∧ B < k ∧ Mid d.interval L B by
             rcases hI.out with ⟨h, _⟩ | h
             · omega
             · exact h)
           go_wp2_with fail
           · go_roundw
             case rel => exact ⟨k + 1, k, _, by omega, by omega, by go_num, rfl, rfl, Lib.hid (.inr ⟨hk1, by omega, HN.out⟩), Hx3.out, Lib.hid (HZ.out.trans (by unfold absD; simp_all))⟩
             case measure => simp [intOf]; omega
           · go_roundw
             case rel => exact ⟨k + 1, B, _, by omega, by omega, by go_num, rfl, rfl, Lib.hid (.inr ⟨HB.out.1, by have := HB.out.2.1; omega, HB.out.2.2⟩), Hx3.out, Lib.hid (HZ.out.trans (if_neg (by
               rintro (h | h)
               · have := HB.out.1; omega
               · exact absurd h (Int.not_lt.2 (by unfold absD; assumption)))))⟩
             case measure => simp [intOf]; omega
   · have hltI : decide ((k : Int) < L.length) = false := by simp; omega
     go_wp2_with fail
     go_ret
     refine ⟨⟨B, rfl, ?_⟩, HE0.out.trans hx⟩
     rcases hI.out with ⟨_, h⟩ | ⟨h1, h2, h3⟩
     · obtain ⟨m, h1, h2, h3⟩ := Hex.out
       exact absurd h3 (h m h1 (by omega))
     · exact ⟨h1, by omega, h3, by
         have e : k = L.length := by omega
         unfold midD
         rw [← e, hSt.out]⟩
end Go.Proofs.YtifmbcjbccedfaaGreatDoor
