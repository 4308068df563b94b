/- A part of the proof. -/
import Derived.Test.YtifmbcjbccedfaaGreatDoorAN

set_option linter.unusedSimpArgs false
set_option linter.unusedVariables false
namespace Dsd
def fourL (n : Nat) : List UInt8 := [UInt8.ofNat (n % 256), UInt8.ofNat (n / 256 % 256), UInt8.ofNat (n / 65536 % 256), UInt8.ofNat (n / 65536 / 256 % 256)]
def formGo : List UInt8 → List Ent → List UInt8
 | _, [] => []
 | b, x :: L => [UInt8.ofNat (frontL b x.1), UInt8.ofNat (x.1.length - frontL b x.1)] ++ x.1.drop (frontL b x.1) ++ fourL x.2.toNat ++ formGo x.1 L
def formL (n : Nd) : List UInt8 := [UInt8.ofNat n.level.toNat] ++ fourL n.next.toNat ++ [UInt8.ofNat n.ents.length] ++ formGo [] n.ents
theorem formGo_len : ∀ (b : List UInt8) (L : List Ent), (formGo b L).length = entsN b L
 | _, [] => rfl
 | b, x :: L => by
   have := formGo_len x.1 L
   simp only [formGo, entsN, List.length_append, List.length_cons, List.length_nil, List.length_drop, fourL, this]
   omega
theorem formL_len (n : Nd) : (formL n).length = 6 + entsN [] n.ents := by
 unfold formL
 simp only [List.length_append, List.length_cons, List.length_nil, formGo_len, fourL]
end Dsd
namespace Go.Proofs.YtifmbcjbccedfaaGreatDoor
open Go.RowKit Dsd
set_option maxRecDepth 100000 in
set_option maxHeartbeats 4000000 in
theorem IsNodeR_any (q : Option Addr) (c : Nat) (n : Nd) (w : World) (h : Nents w q n.ents) (hl : n.ents.length ≤ 1000000) :
   Calls Tryz.prog 22 #[ndV n q c] w fun e w' => e = .returned (.bool (nodeB n)) ∧ Ext w w' := by
 have Hn := Lib.hid h
 clear h
 unfold ndV
 have hb0 := Blk.new w (.cells #[.int .i64 n.level, .int .i64 n.next, .slice q n.ents.length c] 26)
 by_cases hno : n.ents.length < 1 ∨ 120 < n.ents.length ∨ n.level < 0 ∨ 6 < n.level ∨ n.next < 0 ∨ 16777216 < n.next
 · have HR := Lib.hid (node_no hno)
   by_cases a1 : n.ents.length < 1
   · have i1 : decide ((n.ents.length : Int) < 1) = true := decide_eq_true (by omega)
     clear hno
     go_enter Tryz.func22, Tryz.ntmps22
     go_wp2
     go_ret
     exact ⟨by rw [HR.out]; rfl, Ext.alloc _ _⟩
   · have i1 : decide ((n.ents.length : Int) < 1) = false := decide_eq_false (by omega)
     by_cases a2 : 120 < n.ents.length
     · have i2 : decide (120 < (n.ents.length : Int)) = true := decide_eq_true (by omega)
       clear hno
       go_enter Tryz.func22, Tryz.ntmps22
       go_wp2
       go_ret
       exact ⟨by rw [HR.out]; rfl, Ext.alloc _ _⟩
     · have i2 : decide (120 < (n.ents.length : Int)) = false := decide_eq_false (by omega)
       by_cases a3 : n.level < 0
       · have i3 : decide (n.level < 0) = true := decide_eq_true a3
         clear hno
         go_enter Tryz.func22, Tryz.ntmps22
         go_wp2
         go_ret
         exact ⟨by rw [HR.out]; rfl, Ext.alloc _ _⟩
       · have i3 : decide (n.level < 0) = false := decide_eq_false a3
         by_cases a4 : 6 < n.level
         · have i4 : decide (6 < n.level) = true := decide_eq_true a4
           clear hno
           go_enter Tryz.func22, Tryz.ntmps22
           go_wp2
           go_ret
           exact ⟨by rw [HR.out]; rfl, Ext.alloc _ _⟩
         · have i4 : decide (6 < n.level) = false := decide_eq_false a4
           by_cases a5 : n.next < 0
           · have i5 : decide (n.next < 0) = true := decide_eq_true a5
             clear hno
             go_enter Tryz.func22, Tryz.ntmps22
             go_wp2
             go_ret
             exact ⟨by rw [HR.out]; rfl, Ext.alloc _ _⟩
           · have i5 : decide (n.next < 0) = false := decide_eq_false a5
             have i6 : decide (16777216 < n.next) = true := decide_eq_true (by omega)
             clear hno
             go_enter Tryz.func22, Tryz.ntmps22
             go_wp2
             go_ret
             exact ⟨by rw [HR.out]; rfl, Ext.alloc _ _⟩
 · have HR := Lib.hid (node_yes hno)
   have i1 : decide ((n.ents.length : Int) < 1) = false := decide_eq_false (by omega)
   have i2 : decide (120 < (n.ents.length : Int)) = false := decide_eq_false (by omega)
   have i3 : decide (n.level < 0) = false := decide_eq_false (by omega)
   have i4 : decide (6 < n.level) = false := decide_eq_false (by omega)
   have i5 : decide (n.next < 0) = false := decide_eq_false (by omega)
   have i6 : decide (16777216 < n.next) = false := decide_eq_false (by omega)
   have hlen : 1 ≤ n.ents.length ∧ n.ents.length ≤ 120 := by omega
   obtain ⟨hl1, hl2⟩ := hlen
   rw [HR.out]
   clear hno HR hb0 hl
   generalize n.ents = L at *
   generalize n.level = lv at *
   generalize n.next = nx at *
   go_enter Tryz.func22, Tryz.ntmps22
   go_upto_region 1 with (fail)
   refine wp_name (fun w0 => Ext w w0 ∧ Blk w0 w.heap.size (.cells #[.int .i64 lv, .int .i64 nx, .slice q L.length c] 26)) ⟨Ext.alloc _ _, Blk.new w _⟩ ?_
   rintro w0 ⟨he0, hb0⟩
   have c0 := Blk.val hb0 0 _ rfl
   have c1 := Blk.val hb0 1 _ rfl
   have c2 := Blk.val hb0 2 _ rfl
   have hlt0 := Blk.lt hb0
   have Hn0 := Lib.hid (Hn.out.ext he0)
   clear hb0
   go_wp2_with fail
   go_loopw [3] (fun i wr => ∃ (k : Nat) (b : List UInt8), k ≤ L.length ∧ i = .int .i64 k ∧ b = (if k = 0 then [] else (entAt L (k - 1)).1) ∧ entsB [] L = entsB b (L.drop k) ∧ Ext w0 wr) (fun i _ => L.length - (intOf i).toNat)
   case atStart => exact ⟨0, [], Nat.zero_le _, rfl, rfl, rfl, Ext.refl _⟩
   case round =>
     obtain ⟨k, b, hk, rfl, hbk, hen, hex⟩ := hrel
     have Hen := Lib.hid hen
     have Hex := Lib.hid hex
     have Hbk := Lib.hid hbk
     clear hen hbk
     have d0 := Ext.cell hex w.heap.size 0 hlt0
     have d1 := Ext.cell hex w.heap.size 1 hlt0
     have d2 := Ext.cell hex w.heap.size 2 hlt0
     rw [c0] at d0
     rw [c1] at d1
     rw [c2] at d2
     have hltr : w.heap.size < wr.heap.size := Nat.lt_of_lt_of_le hlt0 hex.size
     by_cases hlt : k < L.length
     · have hltI : (k : Int) < L.length := by omega
       obtain ⟨g, off, rfl, hgb, hcc⟩ := (Hn0.out.ext hex).at k hlt
       obtain ⟨hck0, hck1⟩ := hcc k hlt
       have HD := Lib.hid (ents_drop (b := b) hlt)
       have HP := Lib.hid (fun (h : 0 < k) => (hcc (k - 1) (by omega)).1)
       have HX := Lib.hid (show (entAt L k).1 = (if k + 1 = 0 then [] else (entAt L (k + 1 - 1)).1) by simp)
       generalize entAt L k = x at *
       obtain ⟨bel, pg⟩ := x
       simp only at hck0 hck1 HD HX
       clear hcc hex
       by_cases p1 : pg < 1
       · have i1 : decide (pg < 1) = true := decide_eq_true p1
         have hD : Hid (entsB [] L = false) := Lib.hid (by rw [Hen.out, HD.out]; unfold pageB; rw [decide_eq_false (show ¬ 1 ≤ pg by omega)]; simp)
         clear p1
         go_wp2
         go_ret
         exact ⟨by rw [hD.out]; rfl, he0.trans (Hex.out.trans (Ext.alloc _ _))⟩
       · have i1 : decide (pg < 1) = false := decide_eq_false p1
         by_cases p2 : 16777216 < pg
         · have i2 : decide (16777216 < pg) = true := decide_eq_true p2
           have hD : Hid (entsB [] L = false) := Lib.hid (by rw [Hen.out, HD.out]; unfold pageB; rw [decide_eq_false (show ¬ pg ≤ 16777216 by omega)]; simp)
           clear p1 p2
           go_wp2
           go_ret
           exact ⟨by rw [hD.out]; rfl, he0.trans (Hex.out.trans (Ext.alloc _ _))⟩
         · have i2 : decide (16777216 < pg) = false := decide_eq_false p2
           have hpg : pageB pg = true := by unfold pageB; rw [decide_eq_true (show 1 ≤ pg by omega), decide_eq_true (show pg ≤ 16777216 by omega)]; rfl
           rw [hpg] at HD
           clear hpg p1 p2
           by_cases h32 : 32 < bel.length
           · have i32 : decide (32 < (bel.length : Int)) = true := decide_eq_true (by omega)
             have hD : Hid (entsB [] L = false) := Lib.hid (by rw [Hen.out, HD.out, decide_eq_false (show ¬ bel.length ≤ 32 by omega)]; simp)
             clear h32
             go_wp2
             go_ret
             exact ⟨by rw [hD.out]; rfl, he0.trans (Hex.out.trans (Ext.alloc _ _))⟩
           · have i32 : decide (32 < (bel.length : Int)) = false := decide_eq_false (by omega)
             have i33 : decide (bel.length ≤ 32) = true := decide_eq_true (by omega)
             rw [i33] at HD
             clear i33 h32
             have he1 : (bel == []) = bel.isEmpty := by cases bel <;> rfl
             have he2 : ((k : Int) == (L.length : Int) - 1) = decide (k + 1 = L.length) := by rw [Bool.eq_iff_iff]; simp; omega
             by_cases hem : bel.isEmpty = decide (k + 1 = L.length)
             · cases hE : bel.isEmpty
               · rw [hE] at he1 hem HD
                 rw [← hem] at he2 HD
                 have hkl : k + 1 < L.length := by have := of_decide_eq_false hem.symm; omega
                 clear hem
                 by_cases hk0 : k = 0
                 · have hb0 : b = [] := by rw [Hbk.out, if_pos hk0]
                   have hD : Hid (entsB [] L = entsB bel (L.drop (k + 1))) := Lib.hid (by
                     rw [Hen.out, HD.out, hb0]
                     cases bel with
                     | nil => cases hE
                     | cons z zs => simp [Go.Op.bytesLess])
                   have hkI : ¬ 0 < k := by omega
                   clear hk0 hb0
                   go_upto_region 10 with (fail)
                   go_quiet (fail)
                   go_wp2
                   go_roundw
                   case rel => exact ⟨k + 1, bel, by omega, by go_num, HX.out, hD.out, Hex.out.trans ((Ext.alloc _ _).trans (Ext.drewN _ _))⟩
                   case measure => simp [intOf]; omega
                 · have hkI : 0 < k := by omega
                   have hpc := HP.out (by omega)
                   have hbe : b = (entAt L (k - 1)).1 := by rw [Hbk.out, if_neg hk0]
                   rw [← hbe] at hpc
                   clear hbe hk0
                   have hki : IntKind.i64.wrap ((k : Int) - 1) = ((k - 1 : Nat) : Int) := by rw [IntWalk.i64_in _ (by omega)]; omega
                   cases hbb : bl b bel
                   · have hD : Hid (entsB [] L = false) := Lib.hid (by rw [Hen.out, HD.out, hbb]; simp)
                     have hbb' : Go.Op.bytesLess b bel = false := hbb
                     clear hbb
                     go_upto_region 10 with (fail)
                     go_quiet (fail)
                     go_wp2
                     go_ret
                     exact ⟨by rw [hD.out]; rfl, he0.trans (Hex.out.trans ((Ext.alloc _ _).trans (Ext.drewN _ _)))⟩
                   · have hD : Hid (entsB [] L = entsB bel (L.drop (k + 1))) := Lib.hid (by rw [Hen.out, HD.out, hbb]; simp)
                     have hbb' : Go.Op.bytesLess b bel = true := hbb
                     clear hbb
                     go_upto_region 10 with (fail)
                     go_quiet (fail)
                     go_wp2
                     go_roundw
                     case rel => exact ⟨k + 1, bel, by omega, by go_num, HX.out, hD.out, Hex.out.trans ((Ext.alloc _ _).trans (Ext.drewN _ _))⟩
                     case measure => simp [intOf]; omega
               · rw [hE] at he1 hem HD
                 rw [← hem] at he2 HD
                 have hkl : k + 1 = L.length := of_decide_eq_true hem.symm
                 have hD : Hid (entsB [] L = entsB bel (L.drop (k + 1))) := Lib.hid (by rw [Hen.out, HD.out]; simp)
                 have Hkl := Lib.hid hkl
                 clear hem hkl
                 by_cases hkI : 0 < k
                 all_goals
                   go_upto_region 10 with (fail)
                   go_quiet (fail)
                   go_wp2
                   go_roundw
                   case rel => exact ⟨k + 1, bel, by omega, by go_num, HX.out, hD.out, Hex.out.trans ((Ext.alloc _ _).trans (Ext.drewN _ _))⟩
                   case measure => simp [intOf]; omega
             · have hD : Hid (entsB [] L = false) := Lib.hid (by
                 rw [Hen.out, HD.out]
                 cases h1 : bel.isEmpty <;> cases h2 : decide (k + 1 = L.length) <;> simp_all)
               have hem2 : (bel.isEmpty != decide (k + 1 = L.length)) = true := by simpa [bne] using hem
               generalize bel.isEmpty = z1 at *
               generalize decide (k + 1 = L.length) = z2 at *
               cases z1 <;> cases z2
               · exact absurd rfl hem
               · go_wp2
                 go_ret
                 exact ⟨by rw [hD.out]; rfl, he0.trans (Hex.out.trans (Ext.alloc _ _))⟩
               · go_wp2
                 go_ret
                 exact ⟨by rw [hD.out]; rfl, he0.trans (Hex.out.trans (Ext.alloc _ _))⟩
               · exact absurd rfl hem
     · have hltI : decide ((k : Int) < L.length) = false := decide_eq_false (by omega)
       have hD : Hid (entsB [] L = true) := Lib.hid (by rw [Hen.out, List.drop_eq_nil_of_le (by omega)]; rfl)
       go_wp2
       go_ret
       exact ⟨by rw [hD.out]; rfl, he0.trans Hex.out⟩
end Go.Proofs.YtifmbcjbccedfaaGreatDoor
namespace Dsd
theorem formGo_drop {L : List Ent} {k : Nat} {b : List UInt8} (h : k < L.length) : formGo b (L.drop k) = [UInt8.ofNat (frontL b (entAt L k).1), UInt8.ofNat ((entAt L k).1.length - frontL b (entAt L k).1)] ++ (entAt L k).1.drop (frontL b (entAt L k).1) ++ fourL (entAt L k).2.toNat ++ formGo (entAt L k).1 (L.drop (k + 1)) := by
 have e : entAt L k = L[k] := by simp [entAt, List.getD, h]
 rw [List.drop_eq_getElem_cons h, formGo, e]
theorem ents_small : ∀ {b : List UInt8} {L : List Ent}, entsB b L = true → ∀ k, k < L.length → 1 ≤ (entAt L k).2 ∧ (entAt L k).2 ≤ 16777216 ∧ (entAt L k).1.length ≤ 32
 | _, [], _, k, h => by simp at h
 | b, x :: L, he, k, h => by
   obtain ⟨h1, _, h3, _, h5⟩ := ents_cons he
   cases k with
   | zero =>
     unfold pageB at h1
     simp only [Bool.and_eq_true, decide_eq_true_eq] at h1
     exact ⟨h1.1, h1.2, h3⟩
   | succ k => exact ents_small h5 k (by simpa using h)
end Dsd
namespace Go.Proofs.YtifmbcjbccedfaaGreatDoor
open Go.RowKit Dsd
end Go.Proofs.YtifmbcjbccedfaaGreatDoor
namespace Dsd
def headB (d : DS) (base : Int) (n : Nd) : Bool := nodeFits d.interval n && decide (n.level = 0) && decide ((n.ents.length : Int) ≤ d.area) && pagesB base d.area [] n.ents
theorem shaped_head {d : DS} {base : Int} {n : Nd} (h : isBaseB base = true) : shapedB d base n = headB d base n := by unfold shapedB headB; rw [h]; simp
def pagesTo (L : List Ent) (k : Nat) : List Int := ((L.take k).map (·.2)).reverse
theorem pagesTo_succ {L : List Ent} {k : Nat} (h : k < L.length) : pagesTo L (k + 1) = (entAt L k).2 :: pagesTo L k := by
 unfold pagesTo
 rw [List.take_succ_eq_append_getElem h, List.map_append, List.reverse_append]
 have e : entAt L k = L[k] := by simp [entAt, List.getD, h]
 rw [e]
 rfl
theorem pages_drop {base area : Int} {L : List Ent} {k : Nat} {used : List Int} (h : k < L.length) : pagesB base area used (L.drop k) = (!(used.contains (entAt L k).2) && decide (base < (entAt L k).2) && decide ((entAt L k).2 ≤ base + area) && pagesB base area ((entAt L k).2 :: used) (L.drop (k + 1))) := by
 have e : entAt L k = L[k] := by simp [entAt, List.getD, h]
 rw [List.drop_eq_getElem_cons h, pagesB, e]
end Dsd
namespace Go.Proofs.YtifmbcjbccedfaaGreatDoor
open Go.RowKit Dsd
end Go.Proofs.YtifmbcjbccedfaaGreatDoor
