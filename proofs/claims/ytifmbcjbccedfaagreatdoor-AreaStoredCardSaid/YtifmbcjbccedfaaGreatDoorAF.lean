/- A part of the proof. -/
import Derived.Test.YtifmbcjbccedfaaGreatDoorAC
import Derived.Test.YtifmbcjbccedfaaGreatDoorXF

set_option linter.unusedSimpArgs false
set_option linter.unusedVariables false
namespace Dsd
theorem front_step {a b : List UInt8} {k : Nat} (h1 : k < a.length) (h2 : k < b.length) : frontL (a.drop k) (b.drop k) = if byt a k = byt b k then frontL (a.drop (k + 1)) (b.drop (k + 1)) + 1 else 0 := by
 rw [List.drop_eq_getElem_cons h1, List.drop_eq_getElem_cons h2, frontL]
 have e1 : byt a k = (a[k]).toNat := by unfold byt; simp [List.getD, h1]
 have e2 : byt b k = (b[k]).toNat := by unfold byt; simp [List.getD, h2]
 by_cases h : a[k] = b[k]
 · rw [if_pos h, if_pos (by rw [e1, e2, h])]
 · rw [if_neg h, if_neg (fun e => h (UInt8.toNat_inj.1 (by rw [← e1, ← e2, e])))]
theorem front_out {a b : List UInt8} {k : Nat} (h : a.length ≤ k ∨ b.length ≤ k) : frontL (a.drop k) (b.drop k) = 0 := by
 rcases h with h | h
 · rw [List.drop_eq_nil_of_le h, frontL_nil]
 · rw [List.drop_eq_nil_of_le h]
   cases a.drop k <;> rfl
def entCells (L : List Ent) : List Go.Value := L.flatMap fun x => [.string ⟨x.1.toArray⟩, .int .i64 x.2]
theorem entCells_len (L : List Ent) : (entCells L).length = L.length * 2 := by
 induction L with
 | nil => rfl
 | cons x L ih => simp [entCells] at ih ⊢; omega
theorem entCells_at (L : List Ent) (i : Nat) (h : i < L.length) : (entCells L)[i * 2]? = some (.string ⟨(entAt L i).1.toArray⟩) ∧ (entCells L)[i * 2 + 1]? = some (.int .i64 (entAt L i).2) := by
 induction L generalizing i with
 | nil => simp at h
 | cons x L ih =>
   have e : entCells (x :: L) = .string ⟨x.1.toArray⟩ :: .int .i64 x.2 :: entCells L := by simp [entCells]
   rw [e]
   cases i with
   | zero => simp [entAt]
   | succ i =>
     have := ih i (by simpa using h)
     rw [show (i + 1) * 2 = i * 2 + 2 by omega, show i * 2 + 2 + 1 = (i * 2 + 1) + 2 by omega]
     simpa [entAt] using this
theorem entCells_one (L : List Ent) : ∀ u ∈ entCells L, u.oneCell' = true := by
 intro u hu
 unfold entCells at hu
 rw [List.mem_flatMap] at hu
 obtain ⟨x, _, hx⟩ := hu
 simp at hx
 rcases hx with rfl | rfl <;> rfl
theorem ents_drop {L : List Ent} {k : Nat} {b : List UInt8} (h : k < L.length) : entsB b (L.drop k) = (pageB (entAt L k).2 && ((entAt L k).1.isEmpty == decide (k + 1 = L.length)) && decide ((entAt L k).1.length ≤ 32) && (decide (k + 1 = L.length) || bl b (entAt L k).1) && entsB (entAt L k).1 (L.drop (k + 1))) := by
 have e : entAt L k = L[k] := by simp [entAt, List.getD, h]
 have e2 : (L.drop (k + 1)).isEmpty = decide (k + 1 = L.length) := by
   rw [Bool.eq_iff_iff, List.isEmpty_iff, decide_eq_true_eq, List.drop_eq_nil_iff]
   omega
 rw [List.drop_eq_getElem_cons h, entsB, e2, e]
end Dsd
namespace Go.Proofs.YtifmbcjbccedfaaGreatDoor
open Go.RowKit Dsd
set_option maxRecDepth 100000 in
theorem Front_any (a b : List UInt8) (ha : a.length ≤ maxLen) (w : World) : Calls Tryz.prog 115 #[.string ⟨a.toArray⟩, .string ⟨b.toArray⟩] w fun e w' => e = .returned (.int .i64 (frontL a b : Nat)) ∧ Ext w w' := by
 have hm : maxLen = 9223372036854775807 := rfl
 go_enter Tryz.func115, Tryz.ntmps115
 go_wp2_with fail
 go_loopw [5] (fun n wr => ∃ k : Nat, k ≤ a.length ∧ n = .int .i64 k ∧ frontL a b = k + frontL (a.drop k) (b.drop k) ∧ Ext w wr) (fun n _ => a.length - (intOf n).toNat)
 case atStart => exact ⟨0, Nat.zero_le _, rfl, by simp, Ext.refl _⟩
 case round =>
   obtain ⟨k, hk, rfl, hfr, hex⟩ := hrel
   have Hfr := Lib.hid hfr
   clear hfr
   by_cases h1 : k < a.length
   · have h1I : (k : Int) < a.length := by omega
     by_cases h2 : k < b.length
     · have h2I : (k : Int) < b.length := by omega
       have hs := front_step h1 h2
       have hsz1 : (ByteArray.mk a.toArray).size = a.length := by simp [ByteArray.size]
       have hsz2 : (ByteArray.mk b.toArray).size = b.length := by simp [ByteArray.size]
       have Hs := Lib.hid hs
       clear hs
       by_cases hb : byt a k = byt b k
       · have hbI : ((byt a k : Int) == (byt b k : Int)) = true := by simp [hb]
         have HB := Lib.hid hb
         clear hb
         go_upto_region 2 with (fail)
         go_quiet (fail)
         go_wp2
         go_roundw
         case rel => exact ⟨k + 1, by omega, by go_num, by rw [Hfr.out, Hs.out, if_pos HB.out]; omega, hex.trans (Ext.drewN _ _)⟩
         case measure => simp [intOf]; omega
       · have hbI : ((byt a k : Int) == (byt b k : Int)) = false := by simp; omega
         have HB := Lib.hid hb
         clear hb
         go_upto_region 2 with (fail)
         go_quiet (fail)
         go_wp2
         go_ret
         exact ⟨by rw [Hfr.out, Hs.out, if_neg HB.out]; rfl, hex.trans (Ext.drewN _ _)⟩
     · have h2I : decide ((k : Int) < b.length) = false := decide_eq_false (by omega)
       have hs := Lib.hid (front_out (a := a) (b := b) (k := k) (.inr (by omega)))
       go_upto_region 2 with (fail)
       go_quiet (fail)
       go_wp2
       go_ret
       exact ⟨by rw [Hfr.out, hs.out]; rfl, hex.trans (Ext.drewN _ _)⟩
   · have h1I : decide ((k : Int) < a.length) = false := decide_eq_false (by omega)
     have hs := Lib.hid (front_out (a := a) (b := b) (k := k) (.inl (by omega)))
     go_upto_region 2 with (fail)
     go_quiet (fail)
     go_wp2
     go_ret
     exact ⟨by rw [Hfr.out, hs.out]; rfl, hex.trans (Ext.drewN _ _)⟩
def Nents (w : World) (q : Option Addr) (L : List Ent) : Prop := Cells w q (entCells L)
theorem Nents.ext {w w' : World} {q : Option Addr} {L : List Ent} (h : Nents w q L) (e : Ext w w') : Nents w' q L := Cells.ext h e
theorem Nents.at {w : World} {q : Option Addr} {L : List Ent} (h : Nents w q L) (k : Nat) (hk : k < L.length) :
   ∃ b off, q = some ⟨b, off, none⟩ ∧ b < w.heap.size ∧ ∀ i, i < L.length → w.cell? ⟨b, off + i * 2, none⟩ = some (.string ⟨(entAt L i).1.toArray⟩) ∧ w.cell? ⟨b, off + i * 2 + 1, none⟩ = some (.int .i64 (entAt L i).2) := by
 rcases h with h | ⟨b, off, hp, hb, hc⟩
 · have := congrArg List.length h
   rw [entCells_len] at this
   simp only [List.length_nil] at this
   omega
 · refine ⟨b, off, hp, hb, fun i hi => ?_⟩
   obtain ⟨h1, h2⟩ := entCells_at L i hi
   have hl := entCells_len L
   rw [hc (i * 2) (by omega), Nat.add_assoc, hc (i * 2 + 1) (by omega)]
   simp [List.getD, h1, h2]
set_option maxRecDepth 100000 in
theorem Separator_any (a b : List UInt8) (ha : a.length ≤ maxLen) (hb : b.length ≤ 1000000) (w : World) : Calls Tryz.prog 62 #[.string ⟨a.toArray⟩, .string ⟨b.toArray⟩] w fun e w' => e = .returned (.string ⟨(sepL a b).toArray⟩) ∧ Ext w w' := by
 have HF := Lib.hid (fun w => Front_any a b ha w)
 cases hbl : bl a b
 · have hR : Hid (sepL a b = []) := Lib.hid (by unfold sepL; rw [hbl]; rfl)
   have hbI : Go.Op.bytesLess a b = false := hbl
   clear hbl
   go_enter Tryz.func62, Tryz.ntmps62
   go_wp2
   go_ret
   exact ⟨by rw [hR.out]; rfl, Ext.refl _⟩
 · have hR : Hid (sepL a b = b.take (frontL a b + 1)) := Lib.hid (by unfold sepL; rw [if_pos hbl])
   have hbI : Go.Op.bytesLess a b = true := hbl
   have hf := front_lt hbl
   have hsz2 : (ByteArray.mk b.toArray).size = b.length := by simp [ByteArray.size]
   clear hbl
   generalize frontL a b = f at *
   have hw1 : IntKind.i64.wrap ((f : Int) + 1) = (f : Int) + 1 := IntWalk.i64_in _ (by omega)
   have hb1 : (0 : Int) ≤ (f : Int) + 1 := by omega
   have hb2 : (f : Int) + 1 ≤ b.length := by omega
   have htn : ((f : Int) + 1).toNat = f + 1 := by omega
   go_enter Tryz.func62, Tryz.ntmps62
   go_wp2_with (go_at_call 115; refine (HF.out _).mono ?_; rintro e w1 ⟨rfl, he1⟩)
   go_ret
   refine ⟨?_, he1⟩
   rw [hR.out]
   rfl
theorem isPage_any (x : Int) (w : World) : Calls Tryz.prog 116 #[.int .i64 x] w fun e w' => e = .returned (.bool (pageB x)) ∧ w' = w := by
 by_cases h1 : 1 ≤ x
 · have h1I : decide (1 ≤ x) = true := decide_eq_true h1
   have HR : Hid (pageB x = decide (x ≤ 16777216)) := Lib.hid (by unfold pageB; rw [h1I]; rfl)
   go_enter Tryz.func116, Tryz.ntmps116
   go_wp2
   go_ret
   exact ⟨by rw [HR.out]; rfl, rfl⟩
 · have h1I : decide (1 ≤ x) = false := decide_eq_false h1
   have HR : Hid (pageB x = false) := Lib.hid (by unfold pageB; rw [h1I]; rfl)
   go_enter Tryz.func116, Tryz.ntmps116
   go_wp2
   go_ret
   exact ⟨by rw [HR.out]; rfl, rfl⟩
end Go.Proofs.YtifmbcjbccedfaaGreatDoor
namespace Go.Proofs.YtifmbcjbccedfaaGreatDoor
open Go.RowKit Dsd
def ndV (n : Nd) (q : Option Addr) (c : Nat) : Value := .agg #[.int .i64 n.level, .int .i64 n.next, .slice q n.ents.length c]
theorem node_no {n : Nd} (h : n.ents.length < 1 ∨ 120 < n.ents.length ∨ n.level < 0 ∨ 6 < n.level ∨ n.next < 0 ∨ 16777216 < n.next) : nodeB n = false := by
 cases hb : nodeB n with
 | false => rfl
 | true =>
   unfold nodeB at hb
   simp only [Bool.and_eq_true, decide_eq_true_eq] at hb
   omega
theorem node_yes {n : Nd} (h : ¬ (n.ents.length < 1 ∨ 120 < n.ents.length ∨ n.level < 0 ∨ 6 < n.level ∨ n.next < 0 ∨ 16777216 < n.next)) : nodeB n = entsB [] n.ents := by
 unfold nodeB
 rw [decide_eq_true (show 1 ≤ n.ents.length by omega), decide_eq_true (show n.ents.length ≤ 120 by omega), decide_eq_true (show 0 ≤ n.level by omega), decide_eq_true (show n.level ≤ 6 by omega), decide_eq_true (show 0 ≤ n.next by omega), decide_eq_true (show n.next ≤ 16777216 by omega)]
 simp
set_option maxRecDepth 100000 in
set_option maxHeartbeats 2000000 in
theorem plainN_any (q : Option Addr) (c : Nat) (n : Nd) (w : World) (h : Nents w q n.ents) (hl : n.ents.length ≤ 1000000) :
   Calls Tryz.prog 90 #[ndV n q c] w fun e w' => e = .returned (.bool (nodeB n)) ∧ Ext w w' := by
 have Hn := Lib.hid h
 clear h
 unfold ndV
 have hb0 := Blk.new w (.cells #[.int .i64 n.level, .int .i64 n.next, .slice q n.ents.length c] 26)
 by_cases hno : n.ents.length < 1 ∨ 120 < n.ents.length ∨ n.level < 0 ∨ 6 < n.level ∨ n.next < 0 ∨ 16777216 < n.next
 · have HR := Lib.hid (node_no hno)
   by_cases a1 : n.ents.length < 1
   · have i1 : decide ((n.ents.length : Int) < 1) = true := decide_eq_true (by omega)
     clear hno
     go_enter Tryz.func90, Tryz.ntmps90
     go_wp2
     go_ret
     exact ⟨by rw [HR.out]; rfl, Ext.alloc _ _⟩
   · have i1 : decide ((n.ents.length : Int) < 1) = false := decide_eq_false (by omega)
     by_cases a2 : 120 < n.ents.length
     · have i2 : decide (120 < (n.ents.length : Int)) = true := decide_eq_true (by omega)
       clear hno
       go_enter Tryz.func90, Tryz.ntmps90
       go_wp2
       go_ret
       exact ⟨by rw [HR.out]; rfl, Ext.alloc _ _⟩
     · have i2 : decide (120 < (n.ents.length : Int)) = false := decide_eq_false (by omega)
       by_cases a3 : n.level < 0
       · have i3 : decide (n.level < 0) = true := decide_eq_true a3
         clear hno
         go_enter Tryz.func90, Tryz.ntmps90
         go_wp2
         go_ret
         exact ⟨by rw [HR.out]; rfl, Ext.alloc _ _⟩
       · have i3 : decide (n.level < 0) = false := decide_eq_false a3
         by_cases a4 : 6 < n.level
         · have i4 : decide (6 < n.level) = true := decide_eq_true a4
           clear hno
           go_enter Tryz.func90, Tryz.ntmps90
           go_wp2
           go_ret
           exact ⟨by rw [HR.out]; rfl, Ext.alloc _ _⟩
         · have i4 : decide (6 < n.level) = false := decide_eq_false a4
           by_cases a5 : n.next < 0
           · have i5 : decide (n.next < 0) = true := decide_eq_true a5
             clear hno
             go_enter Tryz.func90, Tryz.ntmps90
             go_wp2
             go_ret
             exact ⟨by rw [HR.out]; rfl, Ext.alloc _ _⟩
           · have i5 : decide (n.next < 0) = false := decide_eq_false a5
             have i6 : decide (16777216 < n.next) = true := decide_eq_true (by omega)
             clear hno
             go_enter Tryz.func90, Tryz.ntmps90
             go_wp2
             go_ret
             exact ⟨by rw [HR.out]; rfl, Ext.alloc _ _⟩
 · have HR := Lib.hid (node_yes hno)
   have i1 : decide ((n.ents.length : Int) < 1) = false := decide_eq_false (by omega)
   have i2 : decide (120 < (n.ents.length : Int)) = false := decide_eq_false (by omega)
   have i3 : decide (n.level < 0) = false := decide_eq_false (by omega)
   have i4 : decide (6 < n.level) = false := decide_eq_false (by omega)
   have i5 : decide (n.next < 0) = false := decide_eq_false (by omega)
   have i6 : decide (16777216 < n.next) = false := decide_eq_false (by omega)
   have hlen : 1 ≤ n.ents.length ∧ n.ents.length ≤ 120 := by omega
   obtain ⟨hl1, hl2⟩ := hlen
   rw [HR.out]
   clear hno HR hb0 hl
   generalize n.ents = L at *
   generalize n.level = lv at *
   generalize n.next = nx at *
   go_enter Tryz.func90, Tryz.ntmps90
   go_upto_region 1 with (fail)
   refine wp_name (fun w0 => Ext w w0 ∧ Blk w0 w.heap.size (.cells #[.int .i64 lv, .int .i64 nx, .slice q L.length c] 26)) ⟨Ext.alloc _ _, Blk.new w _⟩ ?_
   rintro w0 ⟨he0, hb0⟩
   have c0 := Blk.val hb0 0 _ rfl
   have c1 := Blk.val hb0 1 _ rfl
   have c2 := Blk.val hb0 2 _ rfl
   have hlt0 := Blk.lt hb0
   have Hn0 := Lib.hid (Hn.out.ext he0)
   clear hb0
   go_wp2_with fail
   go_loopw [4, 44] (fun bf i wr => ∃ (k : Nat) (b : List UInt8), k ≤ L.length ∧ i = .int .i64 k ∧ bf = .string ⟨b.toArray⟩ ∧ entsB [] L = entsB b (L.drop k) ∧ Ext w0 wr) (fun _ i _ => L.length - (intOf i).toNat)
   case atStart => exact ⟨0, [], Nat.zero_le _, rfl, rfl, rfl, Ext.refl _⟩
   case round =>
     obtain ⟨k, b, hk, rfl, rfl, hen, hex⟩ := hrel
     have Hen := Lib.hid hen
     have Hex := Lib.hid hex
     clear hen
     by_cases hlt : k < L.length
     · have hltI : (k : Int) < L.length := by omega
       obtain ⟨g, off, rfl, hgb, hcc⟩ := (Hn0.out.ext hex).at k hlt
       obtain ⟨hck0, hck1⟩ := hcc k hlt
       have HD := Lib.hid (ents_drop (b := b) hlt)
       generalize entAt L k = x at *
       obtain ⟨bel, pg⟩ := x
       simp only at hck0 hck1 HD
       clear hcc hex
       have HP := Lib.hid (fun w => isPage_any pg w)
       go_upto_region 8 with (fail)
       cases hpg : pageB pg
       · rw [hpg] at HP HD
         clear hpg
         go_wp2_with (go_at_call 116; refine (HP.out _).mono ?_; rintro e w2 ⟨rfl, rfl⟩)
         go_ret
         exact ⟨by rw [Hen.out, HD.out]; simp, he0.trans (Hex.out.trans (Ext.alloc _ _))⟩
       · rw [hpg] at HP HD
         clear hpg
         have he1 : (bel == []) = bel.isEmpty := by cases bel <;> rfl
         have he2 : ((k : Int) == (L.length : Int) - 1) = decide (k + 1 = L.length) := by rw [Bool.eq_iff_iff]; simp; omega
         have he3 : decide ((k : Int) < (L.length : Int) - 1) = !decide (k + 1 = L.length) := by rw [Bool.eq_iff_iff]; simp; omega
         by_cases hem : bel.isEmpty = decide (k + 1 = L.length)
         · by_cases h32 : 32 < bel.length
           · have i32 : decide (32 < (bel.length : Int)) = true := decide_eq_true (by omega)
             have hD : Hid (entsB [] L = false) := Lib.hid (by rw [Hen.out, HD.out, decide_eq_false (show ¬ bel.length ≤ 32 by omega)]; simp)
             cases hE : bel.isEmpty
             all_goals
               rw [hE] at he1 hem
               rw [← hem] at he2 he3
               have hl' : ((k : Int) = (L.length : Int) - 1) = (bel.isEmpty = true) := by rw [hE]; have := he2; simp at this ⊢; exact this
               clear hem hl'
               go_wp2_with (go_at_call 116; refine (HP.out _).mono ?_; rintro e w2 ⟨rfl, rfl⟩)
               go_ret
               exact ⟨by rw [hD.out]; rfl, he0.trans (Hex.out.trans (Ext.alloc _ _))⟩
           · have i32 : decide (32 < (bel.length : Int)) = false := decide_eq_false (by omega)
             have i33 : decide (bel.length ≤ 32) = true := decide_eq_true (by omega)
             rw [i33] at HD
             clear i33
             cases hE : bel.isEmpty
             · rw [hE] at he1 hem HD
               rw [← hem] at he2 he3 HD
               have hkl : k + 1 < L.length := by have := of_decide_eq_false hem.symm; omega
               clear hem
               cases hbb : bl b bel
               · have hD : Hid (entsB [] L = false) := Lib.hid (by rw [Hen.out, HD.out, hbb]; simp)
                 cases hb2 : bl bel b
                 · have heq : bel = b := by
                     rcases bl_total b bel with h | h | h
                     · rw [hbb] at h; cases h
                     · exact h.symm
                     · rw [hb2] at h; cases h
                   subst heq
                   have hb3 : Go.Op.bytesLess bel bel = false := hb2
                   clear hb2 hbb
                   go_wp2_with (go_at_call 116; refine (HP.out _).mono ?_; rintro e w2 ⟨rfl, rfl⟩)
                   go_ret
                   exact ⟨by rw [hD.out]; rfl, he0.trans (Hex.out.trans (Ext.alloc _ _))⟩
                 · have hb3 : Go.Op.bytesLess bel b = true := hb2
                   clear hb2 hbb
                   go_wp2_with (go_at_call 116; refine (HP.out _).mono ?_; rintro e w2 ⟨rfl, rfl⟩)
                   go_ret
                   exact ⟨by rw [hD.out]; rfl, he0.trans (Hex.out.trans (Ext.alloc _ _))⟩
               · have hb3 : Go.Op.bytesLess bel b = false := bl_asymm hbb
                 have hb4 : (bel == b) = false := by simpa using (bl_ne hbb).symm
                 have hb5 : ¬ bel = b := (bl_ne hbb).symm
                 have hD : Hid (entsB [] L = entsB bel (L.drop (k + 1))) := Lib.hid (by rw [Hen.out, HD.out, hbb]; simp)
                 clear hbb
                 go_wp2_with (go_at_call 116; refine (HP.out _).mono ?_; rintro e w2 ⟨rfl, rfl⟩)
                 go_roundw
                 case rel => exact ⟨k + 1, bel, by omega, by go_num, rfl, hD.out, Hex.out.trans (Ext.alloc _ _)⟩
                 case measure => simp [intOf]; omega
             · rw [hE] at he1 hem HD
               rw [← hem] at he2 he3 HD
               have hkl : k + 1 = L.length := of_decide_eq_true hem.symm
               have hD : Hid (entsB [] L = entsB bel (L.drop (k + 1))) := Lib.hid (by rw [Hen.out, HD.out]; simp)
               have hkI : (k : Int) = (L.length : Int) - 1 := by omega
               have Hkl := Lib.hid hkl
               clear hem hkl
               go_wp2_with (go_at_call 116; refine (HP.out _).mono ?_; rintro e w2 ⟨rfl, rfl⟩)
               go_roundw
               case rel => exact ⟨k + 1, bel, by omega, by go_num, rfl, hD.out, Hex.out.trans (Ext.alloc _ _)⟩
               case measure => simp [intOf]; omega
         · have hD : Hid (entsB [] L = false) := Lib.hid (by
             have : (bel.isEmpty == decide (k + 1 = L.length)) = false := by simpa using hem
             rw [Hen.out, HD.out, this]; simp)
           cases hE : bel.isEmpty
           all_goals
             cases hK : decide (k + 1 = L.length)
             all_goals
               first
               | exact absurd (hE.trans hK.symm) hem
               | (rw [hE] at he1
                  rw [hK] at he2 he3
                  clear hem
                  go_wp2_with (go_at_call 116; refine (HP.out _).mono ?_; rintro e w2 ⟨rfl, rfl⟩)
                  go_ret
                  exact ⟨by rw [hD.out]; rfl, he0.trans (Hex.out.trans (Ext.alloc _ _))⟩)
     · have hltI : decide ((k : Int) < L.length) = false := decide_eq_false (by omega)
       obtain rfl : k = L.length := by omega
       go_wp2_with fail
       go_ret
       exact ⟨by rw [Hen.out, List.drop_length]; rfl, he0.trans Hex.out⟩
end Go.Proofs.YtifmbcjbccedfaaGreatDoor
namespace Dsd
def frontAt (L : List Ent) (i : Nat) : Nat := if i = 0 then 0 else frontL (entAt L (i - 1)).1 (entAt L i).1
def frontsL (L : List Ent) (k : Nat) : List Int := (List.range k).map fun i => (frontAt L i : Int)
end Dsd
namespace Go.Proofs.YtifmbcjbccedfaaGreatDoor
open Go.RowKit Dsd
def intC (F : List Int) : List Value := F.map fun x => .int .i64 x
theorem infoInt : (Tryz.prog.info? 3).map (fun i => (i.zero, i.size, i.bytes)) = some (some (.int .i64 0), 1, 8) := by kernel_rfl
theorem run_make_ints (w : World) (N : Nat) (hc : N ≤ 1000000) :
   (Instr.makeSlice 121 (.int .i64 N) (.int .i64 N)).run Tryz.prog w = .ok (.slice (some ⟨w.heap.size, 0, none⟩) N N) (w.alloc (.cells (intC (List.replicate N 0)).toArray 3)) := by
 obtain ⟨i, hi, hz0, hz1, hz2⟩ := info_parts infoInt
 rw [run_make w 121 3 i _ Tryz.underlying121 hi hz0 .i64 .i64 N N (by omega) (by omega) (by rw [hz2]; omega) (by omega)]
 have e1 : madeCells (Value.cells (.int .i64 0)) (((N : Int)).toNat * i.size) = (intC (List.replicate N 0)).toArray := by
   apply Array.ext
   · simp [madeCells, hz1, intC]
   · intro j h1 h2
     simp [madeCells, intC, Value.cells, Nat.mod_one]
 rw [e1]; simp
theorem fronts_set {L : List Ent} {k : Nat} (h : k < L.length) : (intC (frontsL L k ++ List.replicate (L.length - k) 0)).set k (.int .i64 (frontAt L k : Nat)) = intC (frontsL L (k + 1) ++ List.replicate (L.length - (k + 1)) 0) := by
 have hl : (frontsL L k).length = k := by simp [frontsL]
 have e : L.length - k = (L.length - (k + 1)) + 1 := by omega
 have h2 : frontsL L (k + 1) = frontsL L k ++ [(frontAt L k : Int)] := by simp [frontsL, List.range_succ]
 have e3 : (List.replicate (L.length - k) (0 : Int)) = 0 :: List.replicate (L.length - (k + 1)) 0 := by rw [e, List.replicate_succ]
 unfold intC
 rw [e3, h2]
 simp only [List.map_append, List.map_cons, List.map_nil, List.append_assoc, List.singleton_append]
 rw [List.set_append_right _ _ (by simp [hl])]
 simp [hl]
set_option maxRecDepth 100000 in
set_option maxHeartbeats 2000000 in
theorem fronts_any (q : Option Addr) (c : Nat) (L : List Ent) (w : World) (h : Nents w q L) (hl : L.length ≤ 1000000) (hs : ∀ i, (entAt L i).1.length ≤ 1000000) :
   Calls Tryz.prog 93 #[.slice q L.length c] w fun e w' => Ext w w' ∧ ∃ q' c', e = .returned (.slice q' L.length c') ∧ w'.ownsRow w.heap.size 3 1 (.slice q' L.length c') L.length (intC (frontsL L L.length)) := by
 have Hn := Lib.hid h
 have Hs := Lib.hid hs
 have hmk := fun W => run_make_ints W L.length hl
 clear h hs
 go_enter Tryz.func93, Tryz.ntmps93
 go_upto_region 2 with (fail)
 have hown0 : (w.alloc (.cells (intC (List.replicate L.length 0)).toArray 3)).ownsRow w.heap.size 3 1 (.slice (some ⟨w.heap.size, 0, none⟩) L.length L.length) L.length (intC (frontsL L 0 ++ List.replicate (L.length - 0) 0)) := by
   have hr : (intC (List.replicate L.length 0)).length = L.length * 1 := by simp [intC]
   refine ⟨by simpa [frontsL] using hr, .inr ⟨w.heap.size, L.length, _, rfl, Nat.le_refl _, Blk.new _ _, Nat.le_refl _, by unfold maxLen; omega, by simpa using hr, ?_⟩⟩
   simp [frontsL, intC]
 refine wp_name (fun w0 => Ext w w0 ∧ w0.ownsRow w.heap.size 3 1 (.slice (some ⟨w.heap.size, 0, none⟩) L.length L.length) L.length (intC (frontsL L 0 ++ List.replicate (L.length - 0) 0))) ⟨Ext.alloc _ _, hown0⟩ ?_
 clear hown0 hmk
 rintro w0 ⟨he0, hown0⟩
 have HO := Lib.hid hown0
 generalize hNN : w.heap.size = N at *
 clear hown0
 go_wp2_with fail
 go_loopw [10] (fun i wr => ∃ k : Nat, k ≤ L.length ∧ i = .int .i64 k ∧ Ext w wr ∧ wr.ownsRow N 3 1 (.slice (some ⟨N, 0, none⟩) L.length L.length) L.length (intC (frontsL L k ++ List.replicate (L.length - k) 0))) (fun i _ => L.length - (intOf i).toNat)
 case atStart => exact ⟨0, Nat.zero_le _, rfl, he0, HO.out⟩
 case round =>
   obtain ⟨k, hk, rfl, hex, hown⟩ := hrel
   by_cases hlt : k < L.length
   · have hltI : (k : Int) < L.length := by omega
     have HF0 := Lib.hid (fronts_set hlt)
     obtain ⟨b, off, rfl, hgb, hcc⟩ := (Hn.out.ext hex).at k hlt
     obtain ⟨hck0, _⟩ := hcc k hlt
     cases k with
     | zero =>
       have e1 : Hid (frontsL L 0 ++ List.replicate (L.length - 0) 0 = frontsL L (0 + 1) ++ List.replicate (L.length - (0 + 1)) 0) := Lib.hid (by
         have : L.length - 0 = (L.length - (0 + 1)) + 1 := by omega
         rw [this, List.replicate_succ]
         simp [frontsL, frontAt])
       rw [e1.out] at hown
       go_wp2_with fail
       go_roundw
       case rel => exact ⟨1, by omega, by go_num, hex, hown⟩
       case measure => simp [intOf]; omega
     | succ j =>
       obtain ⟨hck1, _⟩ := hcc j (by omega)
       have hf1 := Hs.out j
       have HFr := Lib.hid (fun w => Front_any (entAt L j).1 (entAt L (j + 1)).1 (by unfold maxLen; omega) w)
       have HFA : Hid (frontAt L (j + 1) = frontL (entAt L j).1 (entAt L (j + 1)).1) := Lib.hid (by unfold frontAt; rw [if_neg (by omega)]; rfl)
       generalize frontL (entAt L j).1 (entAt L (j + 1)).1 = fr at *
       generalize (entAt L j).1 = sa at *
       generalize (entAt L (j + 1)).1 = sb at *
       have Hown := Lib.hid hown
       have Hex := Lib.hid hex
       clear hcc hown hex
       have i1 : ((j + 1 : Nat) : Int) - 1 = (j : Int) := by omega
       have i2 : (j : Int) < L.length := by omega
       have i3 : (0 : Int) < ((j + 1 : Nat) : Int) := by omega
       go_upto_region 6 with (fail)
       refine wp_region_mk 15 (Ext.refl wr) (by kernel_rfl) (by kernel_rfl) (by kernel_rfl) ?_
       simp only [List.take_succ_cons, List.take_zero, List.take_nil, List.drop_succ_cons, List.drop_zero, List.drop_nil, List.map_cons, List.map_nil]
       repeat (first
         | (refine wpML_move _ _ rfl (by first | exact .inl rfl | exact .inr rfl) rfl (by first | exact Is.stable _ | exact AppF.stable _ | exact WrF.stable _ | exact PtrF.stable _ _ | exact IfcF.stable (Fresh.stable _ _ _) _ | exact PairF.stable (RowF.stable _ _ _ _) _ | exact RowF.stable _ _ _ _ | exact Fresh.stable _ _ _) ?_
            simp only [setL, List.set_cons_succ, List.set_cons_zero, List.getD_cons_succ, List.getD_cons_zero])
         | (refine wpML_moveC _ rfl (by first | exact .inl rfl | exact .inr rfl) ?_
            simp only [setL, List.set_cons_succ, List.set_cons_zero])
         | (apply wpML_det rfl
            · intro a w' he hr K hK
              simp [Reads, Oper.looksAt, Op.operands, Call.operands, factAt, Is] at hr
              have hx := he.cell
              go_simp
              try go_bits
              try (rw [if_neg (by omega)]; go_simp)
              first
                | exact hK _ (Ext.refl _)
                | (refine (HFr.out _).mono ?_; rintro e w'' ⟨rfl, he'⟩; exact hK _ he')
            simp only [setL, List.set_cons_succ, List.set_cons_zero])
         | (apply wpML_det rfl
            · intro a w' he hr K hK
              simp [Reads, Oper.looksAt, Op.operands, Call.operands, factAt, Fresh] at hr
              obtain ⟨b, hr1, hr2⟩ := hr
              go_simp
              exact hK _ (Ext.refl _)
            simp only [setL, List.set_cons_succ, List.set_cons_zero]))
       intro w2 he2
       repeat (first | with_reducible refine rest_is _ _ _ _ ?_ | (with_reducible refine rest_fact _ _ _ _ ?_; intro _ _) | with_reducible refine rest_end _ _ ?_)
       simp only [List.reverse_cons, List.reverse_nil, List.nil_append, List.cons_append]
       obtain ⟨g, hgq, hg1, hg2, hg3, hg4, hset⟩ := own_set (own_ext Hown.out he2) (j + 1) hlt
       obtain rfl : N = g := by simpa using hgq
       obtain ⟨hs1, hs2⟩ := hset (.int .i64 fr)
       rw [show (Value.int IntKind.i64 (fr : Int)) = .int .i64 (frontAt L (j + 1) : Nat) from by rw [HFA.out], HF0.out] at hs1
       have hxx : Ext w (w2.setCell ⟨N, j + 1, none⟩ (.int .i64 fr)) := (Chg.setCell (g := N)).ext (Hex.out.trans he2) (by omega)
       have hs3 : (w2.setCell ⟨N, j + 1, none⟩ (.int .i64 fr)).ownsRow N 3 1 (.slice (some ⟨N, 0, none⟩) L.length L.length) L.length (intC (frontsL L (j + 1 + 1) ++ List.replicate (L.length - (j + 1 + 1)) 0)) := by
         have := hs1
         rw [HFA.out] at this
         exact this
       clear hset hs1 hs2
       have Hxx := Lib.hid hxx
       have Hs3 := Lib.hid hs3
       clear hxx hs3
       go_wp2_with fail
       go_roundw
       case rel => exact ⟨j + 1 + 1, by omega, by go_num, Hxx.out, Hs3.out⟩
       case measure => simp [intOf]; omega
   · have hltI : decide ((k : Int) < L.length) = false := decide_eq_false (by omega)
     obtain rfl : k = L.length := by omega
     go_wp2_with fail
     go_ret
     refine ⟨hex, _, _, rfl, ?_⟩
     rw [Nat.sub_self] at hown
     rw [hNN]
     simpa using hown
end Go.Proofs.YtifmbcjbccedfaaGreatDoor
namespace Dsd
def keyBefore (L : List Ent) (k : Nat) : List UInt8 := if k = 0 then [] else (entAt L (k - 1)).1
theorem frontAt_eq (L : List Ent) (k : Nat) : frontAt L k = frontL (keyBefore L k) (entAt L k).1 := by
 unfold frontAt keyBefore
 split
 · rw [frontL_nil]
 · rfl
theorem entsN_step {L : List Ent} {k : Nat} (h : k < L.length) : entsN (keyBefore L k) (L.drop k) = 6 + ((entAt L k).1.length - frontAt L k) + entsN (keyBefore L (k + 1)) (L.drop (k + 1)) := by
 have e : L.drop k = entAt L k :: L.drop (k + 1) := by
   rw [List.drop_eq_getElem_cons h]
   simp [entAt, List.getD, h]
 rw [e, entsN, frontAt_eq]
 simp [keyBefore]
theorem frontAt_le (L : List Ent) (k : Nat) : frontAt L k ≤ (entAt L k).1.length := by rw [frontAt_eq]; exact (frontL_le _ _).2
theorem entAt_small {L : List Ent} {b : List UInt8} (h : entsB b L = true) (i : Nat) : (entAt L i).1.length ≤ 32 := by
 by_cases hi : i < L.length
 · have : entAt L i ∈ L := by
     simp only [entAt, List.getD, List.getElem?_eq_getElem hi, Option.getD_some]
     exact List.getElem_mem hi
   exact (entsB_len L b h _ this).1
 · simp [entAt, List.getD, List.getElem?_eq_none (Nat.le_of_not_lt hi)]
theorem nodeB_ents {n : Nd} (h : nodeB n = true) : 1 ≤ n.ents.length ∧ n.ents.length ≤ 120 ∧ entsB [] n.ents = true := by
 unfold nodeB at h
 simp only [Bool.and_eq_true, decide_eq_true_eq] at h
 exact ⟨h.1.1.1.1.1.1, h.1.1.1.1.1.2, h.2⟩
theorem nodeB_size {n : Nd} (h : nodeB n = true) : entsN [] n.ents ≤ 4560 := by
 obtain ⟨h1, h2, h3⟩ := nodeB_ents h
 have := entsN_le n.ents [] 32 (fun x hx => (entsB_len _ _ h3 x hx).1)
 have : n.ents.length * (6 + 32) ≤ 120 * 38 := Nat.mul_le_mul h2 (Nat.le_refl _)
 omega
theorem frontsL_at {L : List Ent} {k : Nat} (h : k < L.length) : (Go.Proofs.YtifmbcjbccedfaaGreatDoor.intC (frontsL L L.length)).getD k Go.undef = .int .i64 (frontAt L k : Nat) := by
 simp [Go.Proofs.YtifmbcjbccedfaaGreatDoor.intC, frontsL, List.getD, h]
end Dsd
namespace Go.Proofs.YtifmbcjbccedfaaGreatDoor
open Go.RowKit Dsd
set_option maxRecDepth 100000 in
set_option maxHeartbeats 2000000 in
theorem SizeN_any (q : Option Addr) (c : Nat) (n : Nd) (w : World) (h : Nents w q n.ents) (hl : n.ents.length ≤ 1000000) :
   Calls Tryz.prog 91 #[ndV n q c] w fun e w' => e = .returned (.int .i64 (sizeNd n : Nat)) ∧ Ext w w' := by
 have Hn := Lib.hid h
 have HP := Lib.hid (fun W (e : Ext w W) => plainN_any q c n W (h.ext e) hl)
 have HF := Lib.hid (fun W (e : Ext w W) hs => fronts_any q c n.ents W (h.ext e) hl hs)
 unfold ndV at *
 have hb0 := Blk.new w (.cells #[.int .i64 n.level, .int .i64 n.next, .slice q n.ents.length c] 26)
 have Hq : Hid (sizeNd n = if nodeB n then 6 + entsN [] n.ents else 0) := Lib.hid rfl
 have HS : nodeB n = true → _ := nodeB_size (n := n)
 have HE : nodeB n = true → _ := nodeB_ents (n := n)
 cases hnb : nodeB n
 · rw [hnb] at HP Hq
   clear HS HE h
   go_enter Tryz.func91, Tryz.ntmps91
   go_wp2_with (go_at_call 90; refine (HP.out _ (by first | exact Ext.alloc _ _ | assumption)).mono ?_; rintro e w2 ⟨rfl, he2⟩)
   go_ret
   exact ⟨by rw [Hq.out]; rfl, (Ext.alloc _ _).trans he2⟩
 · have hs := HS hnb
   obtain ⟨a1, a2, a3⟩ := HE hnb
   have Hsm := Lib.hid (fun i => Nat.le_trans (entAt_small a3 i) (by decide : 32 ≤ 1000000))
   have Hsm2 := Lib.hid (fun i => entAt_small a3 i)
   rw [hnb] at HP Hq
   generalize n.ents = L at *
   clear HS HE h a1
   go_enter Tryz.func91, Tryz.ntmps91
   go_upto_region 4 with (go_at_call 90; refine (HP.out _ (by first | exact Ext.alloc _ _ | assumption)).mono ?_; rintro e w2 ⟨rfl, he2⟩)
   have hE2 : Ext w w2 := (Ext.alloc _ _).trans he2
   have HFF := Lib.hid (HF.out w2 hE2 Hsm.out)
   have hb2 := he2.blk _ _ hb0
   have c20 := Blk.val hb2 2 _ rfl
   have hlt2 := Blk.lt hb2
   have HE2 := Lib.hid hE2
   have Hq2 : Hid (sizeNd n = 6 + entsN [] L) := Lib.hid (by rw [Hq.out, if_pos trivial])
   clear hb0 he2 hE2 HF HP a3 Hq
   go_upto_region 5 with (go_at_call 93; refine HFF.out.mono ?_; rintro e w4 ⟨he4, q', c', rfl, hown⟩)
   have hb4 := he4.blk _ _ hb2
   have HE4 := Lib.hid (HE2.out.trans he4)
   have Hn4 := Lib.hid (Hn.out.ext HE4.out)
   have c2 := Blk.val hb4 2 _ rfl
   have hlt0 := Blk.lt hb4
   have Hown := Lib.hid hown
   clear c20 hlt2 hb4 hb2 he4 hown HFF HE2 Hn
   generalize w2.heap.size = M at *
   go_wp2_with fail
   go_loopw [3, 13] (fun o i wr => ∃ k s : Nat, k ≤ L.length ∧ o = .int .i64 s ∧ i = .int .i64 k ∧ wr = w4 ∧ s + entsN (keyBefore L k) (L.drop k) = 6 + entsN [] L) (fun _ i _ => L.length - (intOf i).toNat)
   case atStart => exact ⟨0, 6, Nat.zero_le _, rfl, rfl, rfl, by simp [keyBefore]⟩
   case round =>
     obtain ⟨k, s, hk, rfl, rfl, rfl, hs1⟩ := hrel
     by_cases hlt : k < L.length
     · have hltI : (k : Int) < L.length := by omega
       obtain ⟨g, off, rfl, hgb, hcc⟩ := Hn4.out.at k hlt
       obtain ⟨hck0, _⟩ := hcc k hlt
       obtain ⟨g', rfl, _, hg2, _, hg4, _⟩ := own_set Hown.out k hlt
       rw [frontsL_at hlt] at hg4
       have h1 := entsN_step hlt
       have h2 := frontAt_le L k
       have h3 := Hsm2.out k
       have h5 : s ≤ 10000 := by omega
       have Hs2 : Hid (s + (6 + ((entAt L k).1.length - frontAt L k)) + entsN (keyBefore L (k + 1)) (L.drop (k + 1)) = 6 + entsN [] L) := Lib.hid (by omega)
       clear hs1 h1 hcc hs
       generalize frontAt L k = fr at *
       generalize (entAt L k).1 = sa at *
       go_wp2_with fail
       go_roundw
       case rel => exact ⟨k + 1, s + (6 + (sa.length - fr)), by omega, by go_num, by go_num, trivial, Hs2.out⟩
       case measure => simp [intOf]; omega
     · have hltI : decide ((k : Int) < L.length) = false := decide_eq_false (by omega)
       obtain rfl : k = L.length := by omega
       rw [List.drop_length] at hs1
       simp only [entsN] at hs1
       go_wp2_with fail
       go_ret
       exact ⟨by rw [Hq2.out, ← hs1]; rfl, HE4.out⟩
end Go.Proofs.YtifmbcjbccedfaaGreatDoor
namespace Go.Proofs.YtifmbcjbccedfaaGreatDoor
open Go.RowKit Dsd
theorem isSizeN_any (n : Int) (w : World) :
   Calls Tryz.prog 67 #[.int .i64 n] w fun e w' => e = .returned (.bool (isSizeB n)) ∧ w = w' := by
 go_enter Tryz.func67, Tryz.ntmps67
 go_wp2
 all_goals go_ret
 all_goals simp [isSizeB, *]
set_option maxRecDepth 100000 in
set_option maxHeartbeats 2000000 in
theorem ValidN_any (z : Int) (q : Option Addr) (c : Nat) (n : Nd) (w : World) (h : Nents w q n.ents) (hl : n.ents.length ≤ 1000000) :
   Calls Tryz.prog 70 #[.int .i64 z, ndV n q c] w fun e w' => e = .returned (.bool (nodeFits z n)) ∧ Ext w w' := by
 have HZ := Lib.hid (fun w => isSizeN_any z w)
 have HP := Lib.hid (fun W (e : Ext w W) => plainN_any q c n W (h.ext e) hl)
 have HS := Lib.hid (fun W (e : Ext w W) => SizeN_any q c n W (h.ext e) hl)
 have HR : Hid (nodeFits z n = (isSizeB z && nodeB n && decide ((sizeNd n : Int) ≤ z))) := Lib.hid rfl
 have HB : Hid (Blk (w.alloc (.cells #[.int .i64 n.level, .int .i64 n.next, .slice q n.ents.length c] 26)) w.heap.size (.cells #[.int .i64 n.level, .int .i64 n.next, .slice q n.ents.length c] 26)) := Lib.hid (Blk.new w _)
 unfold ndV at *
 generalize isSizeB z = b1 at *
 generalize nodeB n = b2 at *
 generalize sizeNd n = s at *
 cases b1
 · clear h HP HS
   go_enter Tryz.func70, Tryz.ntmps70
   go_wp2_with (go_at_call 67; refine (HZ.out _).mono ?_; rintro e w2 ⟨rfl, rfl⟩)
   go_ret
   exact ⟨by rw [HR.out]; rfl, Ext.alloc _ _⟩
 cases b2
 · clear h HS
   have c0 := Blk.val HB.out 0 _ rfl
   have c1 := Blk.val HB.out 1 _ rfl
   have c2 := Blk.val HB.out 2 _ rfl
   go_enter Tryz.func70, Tryz.ntmps70
   go_wp2_with (first | (go_at_call 67; refine (HZ.out _).mono ?_; rintro e w2 ⟨rfl, rfl⟩) | (go_at_call 90; refine (HP.out _ (Ext.alloc _ _)).mono ?_; rintro e w2 ⟨rfl, he2⟩))
   go_ret
   exact ⟨by rw [HR.out]; rfl, (Ext.alloc _ _).trans he2⟩
 · clear h
   go_enter Tryz.func70, Tryz.ntmps70
   go_upto_region 1 with (fail)
   refine wp_name (fun w0 => Ext w w0 ∧ Blk w0 w.heap.size (.cells #[.int .i64 n.level, .int .i64 n.next, .slice q n.ents.length c] 26)) ⟨Ext.alloc _ _, HB.out⟩ ?_
   rintro w0 ⟨he0, hb0⟩
   have HP2 := Lib.hid (HP.out w0 he0)
   have HS2 := Lib.hid (fun W (e : Ext w0 W) => HS.out W (he0.trans e))
   have c0 := Blk.val hb0 0 _ rfl
   have c1 := Blk.val hb0 1 _ rfl
   have c2 := Blk.val hb0 2 _ rfl
   have hlt0 := Blk.lt hb0
   clear HB HP HS hb0
   go_wp2_with (first | (go_at_call 67; refine (HZ.out _).mono ?_; rintro e w2 ⟨rfl, rfl⟩) | (go_at_call 90; refine HP2.out.mono ?_; rintro e w2 ⟨rfl, he2⟩; have hc2 := he2.cell) | (go_at_call 91; refine (HS2.out _ (by assumption)).mono ?_; rintro e w3 ⟨rfl, he3⟩))
   go_ret
   exact ⟨by rw [HR.out]; simp, (he0.trans he2).trans he3⟩
end Go.Proofs.YtifmbcjbccedfaaGreatDoor
namespace Dsd
theorem findGo_at {key : List UInt8} {L : List Ent} {k : Nat} (h : k < L.length) : findGo key (L.drop k) = if bl key (entAt L k).1 = true then some 0 else (findGo key (L.drop (k + 1))).map (· + 1) := by
 have e : L.drop k = entAt L k :: L.drop (k + 1) := by
   rw [List.drop_eq_getElem_cons h]
   simp [entAt, List.getD, h]
 rw [e]; rfl
theorem findGo_lt {key : List UInt8} : ∀ {L : List Ent} {i : Nat}, findGo key L = some i → i < L.length
 | [], i, h => by simp [findGo] at h
 | x :: L, i, h => by
   unfold findGo at h
   split at h
   · simp at h; subst h; simp
   · rw [Option.map_eq_some_iff] at h
     obtain ⟨j, h1, h2⟩ := h
     have := findGo_lt h1
     simp; omega
theorem bl_gt (a b : List UInt8) : (!Go.Op.bytesLess a b && !a == b) = bl b a := by
 rcases bl_total a b with h | h | h
 · have h2 : bl b a = false := bl_asymm h
   have h1 : Go.Op.bytesLess a b = true := h
   rw [h1, h2]; rfl
 · subst h
   have h2 : bl a a = false := bl_irrefl a
   rw [h2]; simp
 · have h2 : Go.Op.bytesLess a b = false := bl_asymm h
   have h1 : bl b a = true := h
   have h3 := bl_ne h
   rw [h1, h2]
   simp only [Bool.not_false, Bool.true_and]
   cases hab : a == b
   · rfl
   · rw [beq_iff_eq] at hab; exact absurd hab.symm h3
def idxI : Option Nat → Int
 | none => -1
 | some i => i
end Dsd
namespace Go.Proofs.YtifmbcjbccedfaaGreatDoor
open Go.RowKit Dsd
set_option maxRecDepth 100000 in
theorem Find1_any (cb : Nat) (key sb : List UInt8) (pg : Int) (w : World) (hb : Blk w cb (.cells #[.string ⟨key.toArray⟩] 9)) :
   Calls Tryz.prog 149 #[.agg #[.string ⟨sb.toArray⟩, .int .i64 pg], .pointer (some ⟨cb, 0, none⟩)] w fun e w' => e = .returned (.bool (bl key sb)) ∧ Ext w w' := by
 have c0 := Blk.cell hb
 have hlt := Blk.lt hb
 have hne : ¬ cb = w.heap.size := by omega
 go_enter Tryz.func149, Tryz.ntmps149
 go_wp2
 go_ret
 exact ⟨ret_bool (bl_gt sb key), Ext.alloc _ _⟩
set_option maxRecDepth 100000 in
set_option maxHeartbeats 1000000 in
theorem IndexN_any (p : Option Addr) (cap : Nat) (L : List Ent) (cb : Nat) (key : List UInt8) (w : World) (hs : Nents w p L) (hm : L.length ≤ 1000000) (hb : Blk w cb (.cells #[.string ⟨key.toArray⟩] 9)) :
   Calls Tryz.prog 148 #[.slice p L.length cap, .func (.func 149) #[] #[.pointer (some ⟨cb, 0, none⟩)]] w fun e w' => e = .returned (.int .i64 (idxI (findGo key L))) ∧ Ext w w' := by
 have Hs := Lib.hid hs
 have Hb := Lib.hid hb
 clear hs hb
 go_enter Tryz.func148, Tryz.ntmps148
 go_wp2_with fail
 obtain ⟨wo, rfl⟩ : ∃ wo : World, wo = w := ⟨_, rfl⟩
 go_loopw [8] (fun i wr => ∃ k : Nat, k ≤ L.length ∧ i = .int .i64 k ∧ findGo key L = (findGo key (L.drop k)).map (· + k) ∧ Ext wo wr) (fun i _ => L.length - (intOf i).toNat)
 case atStart => exact ⟨0, Nat.zero_le _, rfl, by simp, Ext.refl _⟩
 case round =>
   obtain ⟨k, hk, rfl, hq, hext⟩ := hrel
   have Hq := Lib.hid hq
   clear hq
   by_cases hlt : k < L.length
   · have hltI : (k : Int) < L.length := by omega
     obtain ⟨b, off, rfl, hb, hc⟩ := (Hs.out.ext hext).at k hlt
     obtain ⟨hck, hck1⟩ := hc k hlt
     have HA := Lib.hid (findGo_at (key := key) hlt)
     clear hc
     generalize entAt L k = x at *
     obtain ⟨sb, pg⟩ := x
     simp only at hck hck1 HA
     have Hpl := Lib.hid (Find1_any cb key sb pg _ (hext.blk _ _ Hb.out))
     cases hbd : bl key sb
     · have HBD : Hid (findGo key L = (findGo key (L.drop (k + 1))).map (· + (k + 1))) := Lib.hid (by
         rw [Hq.out, HA.out, hbd, if_neg (by simp), Option.map_map]
         congr 1
         funext y
         simp; omega)
       rw [hbd] at Hpl
       clear hbd HA
       go_wp2_with (go_at_call 149; refine Hpl.out.mono ?_; rintro e w1 ⟨rfl, he1⟩)
       go_roundw
       case rel => exact ⟨k + 1, by omega, by go_num, HBD.out, hext.trans he1⟩
       case measure => simp [intOf]; omega
     · have HBD : Hid (findGo key L = some k) := Lib.hid (by
         rw [Hq.out, HA.out, hbd, if_pos rfl]; simp)
       rw [hbd] at Hpl
       clear hbd HA
       go_wp2_with (go_at_call 149; refine Hpl.out.mono ?_; rintro e w1 ⟨rfl, he1⟩)
       go_ret
       exact ⟨by rw [HBD.out]; rfl, hext.trans he1⟩
   · have hltI : decide ((k : Int) < L.length) = false := by simp; omega
     go_wp2
     go_ret
     have := Hq.out
     rw [List.drop_of_length_le (by omega)] at this
     exact ⟨by rw [this]; rfl, hext⟩
set_option maxRecDepth 100000 in
set_option maxHeartbeats 1000000 in
theorem FindN_any (q : Option Addr) (c : Nat) (n : Nd) (key : List UInt8) (w : World) (h : Nents w q n.ents) (hl : n.ents.length ≤ 1000000) :
   Calls Tryz.prog 107 #[ndV n q c, .string ⟨key.toArray⟩] w fun e w' => (n.ents ≠ [] → e = .returned (.int .i64 (findNd n.ents key : Nat))) ∧ (∃ v, e = .returned v) ∧ Ext w w' := by
 have HI := Lib.hid (fun W (e : Ext w W) cb hb => IndexN_any q c n.ents cb key W (h.ext e) hl hb)
 unfold ndV
 have hb0 := Blk.new w (.cells #[.int .i64 n.level, .int .i64 n.next, .slice q n.ents.length c] 26)
 have hb1 := Blk.new (w.alloc (.cells #[.int .i64 n.level, .int .i64 n.next, .slice q n.ents.length c] 26)) (.cells #[.string ⟨key.toArray⟩] 9)
 have hb2 := Blk.alloc hb0 (.cells #[.string ⟨key.toArray⟩] 9)
 have he1 := (Ext.alloc w (.cells #[.int .i64 n.level, .int .i64 n.next, .slice q n.ents.length c] 26)).trans (Ext.alloc _ (.cells #[.string ⟨key.toArray⟩] 9))
 have HL := Lib.hid (fun i (hi : findGo key n.ents = some i) => findGo_lt hi)
 have HF : Hid (findNd n.ents key = (findGo key n.ents).getD (n.ents.length - 1)) := Lib.hid rfl
 have HH := Lib.hid h
 generalize findGo key n.ents = r at *
 generalize findNd n.ents key = fn at *
 generalize n.ents = L at *
 go_enter Tryz.func107, Tryz.ntmps107
 go_upto_region 1 with (fail)
 refine wp_name (fun w0 => Ext w w0 ∧ Blk w0 w.heap.size (.cells #[.int .i64 n.level, .int .i64 n.next, .slice q L.length c] 26) ∧ Blk w0 (w.heap.size + 1) (.cells #[.string ⟨key.toArray⟩] 9)) ⟨he1, hb2, by simpa using hb1⟩ ?_
 clear hb0 hb1 hb2 he1 h
 rintro w0 ⟨he0, hb0, hb1⟩
 have c0 := Blk.val hb0 2 _ rfl
 have hlt0 := Blk.lt hb0
 have HII := Lib.hid (HI.out w0 he0 _ hb1)
 have HB0 := Lib.hid hb0
 have HE0 := Lib.hid he0
 clear HI hb0 hb1 he0
 generalize w.heap.size = M at *
 cases r with
 | none =>
   go_upto_region 2 with (go_at_call 148; refine HII.out.mono ?_; rintro e w1 ⟨rfl, he1⟩)
   have c1 := Blk.val (he1.blk _ _ HB0.out) 2 _ rfl
   have hlt1 := Blk.lt (he1.blk _ _ HB0.out)
   have Hee := Lib.hid he1
   clear c0 hlt0 he1
   go_wp2_with fail
   go_ret
   refine ⟨fun hne => ?_, ⟨_, rfl⟩, HE0.out.trans Hee.out⟩
   rw [HF.out]
   have := List.length_pos_iff.2 hne
   congr 2
   simp only [Option.getD_none]
   go_num
 | some i =>
   have hi := HL.out i rfl
   have hiI : decide ((i : Int) < 0) = false := decide_eq_false (by omega)
   go_wp2_with (go_at_call 148; refine HII.out.mono ?_; rintro e w1 ⟨rfl, he1⟩)
   go_ret
   exact ⟨fun _ => by rw [HF.out]; rfl, ⟨_, rfl⟩, HE0.out.trans he1⟩
end Go.Proofs.YtifmbcjbccedfaaGreatDoor
namespace Go.Proofs.YtifmbcjbccedfaaGreatDoor
open Go.RowKit Dsd
theorem entCells_spl : ∀ (L : List Ent) (i : Nat) (s : List UInt8) (pg : Int), i < L.length →
   ((entCells L).take (i * 2) ++ [Value.string ⟨s.toArray⟩, Value.int .i64 (entAt L i).2] ++ (entCells L).drop (i * 2)).set ((i + 1) * 2 + 1) (Value.int .i64 pg) = entCells (splE L i s pg)
 | [], _, _, _, h => by simp at h
 | x :: L, 0, s, pg, _ => by simp [entCells, splE, entAt]
 | x :: L, i + 1, s, pg, h => by
   have ih := entCells_spl L i s pg (by simpa using h)
   have e : entCells (x :: L) = Value.string ⟨x.1.toArray⟩ :: Value.int .i64 x.2 :: entCells L := by simp [entCells]
   have e2 : entAt (x :: L) (i + 1) = entAt L i := by simp [entAt]
   rw [splE_succ, e2, e, show entCells (x :: splE L i s pg) = Value.string ⟨x.1.toArray⟩ :: Value.int .i64 x.2 :: entCells (splE L i s pg) from by simp [entCells], ← ih]
   rw [show (i + 1) * 2 = i * 2 + 1 + 1 from by omega, show (i + 1 + 1) * 2 + 1 = ((i * 2 + 1 + 1) + 1) + 1 + 1 from by omega]
   simp [List.take_succ_cons, List.drop_succ_cons]
theorem cells_take {w : World} {g : Nat} {E : TypeId} {cur : Array Value} {n : Nat} {xs : List Value} (hb : Blk w g (.cells cur E)) (h : cur.toList.take n = xs) : Cells w (some ⟨g, 0, none⟩) xs := by
 refine .inr ⟨g, 0, rfl, Blk.lt hb, fun i hi => ?_⟩
 subst h
 have h1 : i < cur.size := by simp at hi; omega
 have h2 : i < n := by simp at hi; omega
 refine Blk.val hb (0 + i) _ ?_
 simp [List.getD, List.getElem?_take, h2, h1]
theorem cells_chg {w w' : World} {g b : Nat} {xs : List Value} (h : Cells w (some ⟨g, 0, none⟩) xs) (hne : g ≠ b) (c : Chg b w w') : Cells w' (some ⟨g, 0, none⟩) xs := by
 rcases h with h | ⟨g', off, hp, hb, hc⟩
 · exact .inl h
 · simp only [Option.some.injEq, Addr.mk.injEq] at hp
   obtain ⟨rfl, rfl, _⟩ := hp
   exact .inr ⟨g, 0, rfl, by rw [c.size]; exact hb, fun i hi => by rw [Chg.cell c g (0 + i) hne]; exact hc i hi⟩
end Go.Proofs.YtifmbcjbccedfaaGreatDoor
