/- A part of the proof. -/
import Derived.Test.YtifmbcjbccedfaaGreatDoorBI
import Derived.Test.YtifmbcjbccedfaaGreatDoorAN

set_option linter.unusedSimpArgs false
set_option linter.unusedVariables false
namespace Dsd
def headB (d : DS) (base : Int) (n : Nd) : Bool := nodeFits d.interval n && decide (n.level = 0) && decide ((n.ents.length : Int) ≤ d.area) && pagesB base d.area [] n.ents
theorem shaped_head {d : DS} {base : Int} {n : Nd} (h : isBaseB base = true) : shapedB d base n = headB d base n := by unfold shapedB headB; rw [h]; simp
def pagesTo (L : List Ent) (k : Nat) : List Int := ((L.take k).map (·.2)).reverse
theorem pagesTo_succ {L : List Ent} {k : Nat} (h : k < L.length) : pagesTo L (k + 1) = (entAt L k).2 :: pagesTo L k := by
 unfold pagesTo
 rw [List.take_succ_eq_append_getElem h, List.map_append, List.reverse_append]
 have e : entAt L k = L[k] := by simp [entAt, List.getD, h]
 rw [e]
 rfl
theorem pagesTo_mem {L : List Ent} {k : Nat} {x : Int} (hk : k ≤ L.length) : x ∈ pagesTo L k ↔ ∃ i, i < k ∧ (entAt L i).2 = x := by
 unfold pagesTo
 rw [List.mem_reverse, List.mem_map]
 constructor
 · rintro ⟨y, hy, rfl⟩
   obtain ⟨i, hi, he⟩ := List.getElem_of_mem hy
   rw [List.length_take] at hi
   refine ⟨i, by omega, ?_⟩
   rw [← he]
   simp [entAt, List.getD, show i < L.length by omega]
 · rintro ⟨i, hi, rfl⟩
   exact ⟨entAt L i, by rw [List.mem_take_iff_getElem]; exact ⟨i, by omega, by simp [entAt, List.getD, show i < L.length by omega]⟩, rfl⟩
theorem pages_drop {base area : Int} {L : List Ent} {k : Nat} {used : List Int} (h : k < L.length) : pagesB base area used (L.drop k) = (!(used.contains (entAt L k).2) && decide (base < (entAt L k).2) && decide ((entAt L k).2 ≤ base + area) && pagesB base area ((entAt L k).2 :: used) (L.drop (k + 1))) := by
 have e : entAt L k = L[k] := by simp [entAt, List.getD, h]
 rw [List.drop_eq_getElem_cons h, pagesB, e]
end Dsd
namespace Go.Proofs.YtifmbcjbccedfaaGreatDoor
open Go.RowKit Dsd
theorem ds_nd (w : World) (d : DS) (n : Nd) (q : Option Addr) (c : Nat) : Ext w ((w.alloc (.cells #[.int .i64 d.id, .int .i64 d.org, .int .i64 d.format, .int .i64 d.length, .int .i64 d.block, .int .i64 d.keyAt, .int .i64 d.keyLength, .int .i64 d.interval, .int .i64 d.area, .int .i64 d.freeInterval, .int .i64 d.freeArea, .int .i64 d.base, .int .i64 d.altAt, .int .i64 d.altLength, .bool d.unique, .int .i64 d.cls, .string ⟨d.volume.toArray⟩, .string ⟨d.owner.toArray⟩, .int .i64 d.created, .int .i64 d.expires, .bool d.archived] 23)).alloc (.cells #[.int .i64 n.level, .int .i64 n.next, .slice q n.ents.length c] 26)) ∧
   DsAt ((w.alloc (.cells #[.int .i64 d.id, .int .i64 d.org, .int .i64 d.format, .int .i64 d.length, .int .i64 d.block, .int .i64 d.keyAt, .int .i64 d.keyLength, .int .i64 d.interval, .int .i64 d.area, .int .i64 d.freeInterval, .int .i64 d.freeArea, .int .i64 d.base, .int .i64 d.altAt, .int .i64 d.altLength, .bool d.unique, .int .i64 d.cls, .string ⟨d.volume.toArray⟩, .string ⟨d.owner.toArray⟩, .int .i64 d.created, .int .i64 d.expires, .bool d.archived] 23)).alloc (.cells #[.int .i64 n.level, .int .i64 n.next, .slice q n.ents.length c] 26)) w.heap.size d ∧ Blk ((w.alloc (.cells #[.int .i64 d.id, .int .i64 d.org, .int .i64 d.format, .int .i64 d.length, .int .i64 d.block, .int .i64 d.keyAt, .int .i64 d.keyLength, .int .i64 d.interval, .int .i64 d.area, .int .i64 d.freeInterval, .int .i64 d.freeArea, .int .i64 d.base, .int .i64 d.altAt, .int .i64 d.altLength, .bool d.unique, .int .i64 d.cls, .string ⟨d.volume.toArray⟩, .string ⟨d.owner.toArray⟩, .int .i64 d.created, .int .i64 d.expires, .bool d.archived] 23)).alloc (.cells #[.int .i64 n.level, .int .i64 n.next, .slice q n.ents.length c] 26)) (w.heap.size + 1) (.cells #[.int .i64 n.level, .int .i64 n.next, .slice q n.ents.length c] 26) :=
 ⟨(Ext.alloc _ _).trans (Ext.alloc _ _), (Ext.alloc _ _).blk _ _ (Blk.new _ _), Blk.new1 _ _ _ (by simp)⟩
set_option maxRecDepth 100000 in
set_option maxHeartbeats 4000000 in
theorem isHead_any (d : DS) (base : Int) (q : Option Addr) (c : Nat) (n : Nd) (w : World) (h : Nents w q n.ents) (hl : n.ents.length ≤ 1000000) (hk : keyedB d = true) (hb : isBaseB base = true) :
   Calls Tryz.prog 36 #[.agg #[.int .i64 d.id, .int .i64 d.org, .int .i64 d.format, .int .i64 d.length, .int .i64 d.block, .int .i64 d.keyAt, .int .i64 d.keyLength, .int .i64 d.interval, .int .i64 d.area, .int .i64 d.freeInterval, .int .i64 d.freeArea, .int .i64 d.base, .int .i64 d.altAt, .int .i64 d.altLength, .bool d.unique, .int .i64 d.cls, .string ⟨d.volume.toArray⟩, .string ⟨d.owner.toArray⟩, .int .i64 d.created, .int .i64 d.expires, .bool d.archived], .int .i64 base, ndV n q c] w fun e w' => e = .returned (.bool (headB d base n)) ∧ Ext w w' := by
 have Hn := Lib.hid h
 have HV := Lib.hid (fun W (e : Ext w W) => ValidNR_any d.interval q c n W (h.ext e) hl)
 have HR : Hid (headB d base n = (nodeFits d.interval n && decide (n.level = 0) && decide ((n.ents.length : Int) ≤ d.area) && pagesB base d.area [] n.ents)) := Lib.hid rfl
 have ha1 : 2 ≤ d.area := by have := keyed_spec hk; omega
 have ha2 : d.area ≤ 8 := by have := keyed_spec hk; omega
 have hba : 1 ≤ base ∧ base ≤ 16777208 := by unfold isBaseB at hb; simpa using hb
 have hwa : IntKind.i64.wrap (base + d.area) = base + d.area := IntWalk.i64_in _ (by omega)
 obtain ⟨hb1, hb2⟩ := hba
 clear h hk hb
 unfold ndV at HV ⊢
 go_enter Tryz.func36, Tryz.ntmps36
 go_upto_region 1 with (fail)
 refine wp_name (fun w0 => Ext w w0 ∧ DsAt w0 w.heap.size d ∧ Blk w0 (w.heap.size + 1) (.cells #[.int .i64 n.level, .int .i64 n.next, .slice q n.ents.length c] 26)) (ds_nd w d n q c) ?_
 rintro w0 ⟨he0, hd0, hb0⟩
 have c7 : w0.cell? ⟨w.heap.size, 7, none⟩ = some (.int .i64 d.interval) := Blk.val hd0 7 _ rfl
 have hld := Blk.lt hd0
 have HD := Lib.hid (And.intro hd0 hb0)
 cases hv : nodeFits d.interval n
 · rw [hv] at HV HR
   clear hv
   go_wp2_with (first
     | ((with_reducible (show wpList _ _ _ (⟨some 12, _, _, _, _, _⟩ :: _) _ _)); refine wpList_row (o := ⟨some 12, _, _, _, _, _⟩) rfl 26 (.tmp 5) rfl _ rfl _ _ _ hb0 ndDesc rfl ndSize ?_)
     | (go_at_call 78; refine (HV.out _ he0).mono ?_; rintro e w1 ⟨rfl, he1⟩))
   go_ret
   exact ⟨by rw [HR.out]; rfl, he0.trans he1⟩
 · rw [hv] at HV HR
   have hll : n.ents.length ≤ 120 := by
     unfold nodeFits at hv
     simp only [Bool.and_eq_true] at hv
     exact (node_iff.1 hv.1.2).l2
   clear hv
   by_cases hlv : n.level = 0
   · have i1 : (n.level != 0) = false := by simp [hlv]
     rw [decide_eq_true hlv] at HR
     clear hlv
     by_cases hfw : (n.ents.length : Int) ≤ d.area
     · have i2 : decide (d.area < (n.ents.length : Int)) = false := decide_eq_false (by omega)
       rw [decide_eq_true hfw] at HR
       have hfw2 := hfw
       clear hfw
       go_upto_region 3 with (first
         | ((with_reducible (show wpList _ _ _ (⟨some 12, _, _, _, _, _⟩ :: _) _ _)); refine wpList_row (o := ⟨some 12, _, _, _, _, _⟩) rfl 26 (.tmp 5) rfl _ rfl _ _ _ hb0 ndDesc rfl ndSize ?_)
         | (go_at_call 78; refine (HV.out _ he0).mono ?_; rintro e w1 ⟨rfl, he1⟩; have n0 := Blk.val (he1.blk _ _ hb0) 0 _ rfl; have n2 := Blk.val (he1.blk _ _ hb0) 2 _ rfl; have nl := Blk.lt (he1.blk _ _ hb0); have a8 : w1.cell? ⟨w.heap.size, 8, none⟩ = some (.int .i64 d.area) := Blk.val (he1.blk _ _ HD.out.1) 8 _ rfl; have la := Blk.lt (he1.blk _ _ HD.out.1)))
       have HX1 := Lib.hid (he0.trans he1)
       have Hn1 := Lib.hid (Hn.out.ext (he0.trans he1))
       have m2 : w1.cell? ⟨w.heap.size + 1, 2, none⟩ = some (.slice q n.ents.length c) := n2
       clear c7 hld HD HV hd0 hb0 he0 he1 n0 n2 i1 i2 Hn
       generalize n.ents = L at *
       go_upto_region 4 with (fail)
       go_loopw [7] (fun i wr => ∃ (k : Nat), k ≤ L.length ∧ i = .int .i64 k ∧ pagesB base d.area [] L = pagesB base d.area (pagesTo L k) (L.drop k) ∧ wr = w1) (fun i _ => L.length - (intOf i).toNat)
       case atStart => exact ⟨0, Nat.zero_le _, rfl, rfl, rfl⟩
       case round =>
         obtain ⟨k, hkl, rfl, hpg, rfl⟩ := hrel
         have Hpg := Lib.hid hpg
         clear hpg
         by_cases hlt : k < L.length
         · have hltI : (k : Int) < L.length := by omega
           obtain ⟨g, off, rfl, hgb, hcc⟩ := Hn1.out.at k hlt
           have hck1 := (hcc k hlt).2
           have HC := Lib.hid hcc
           have HP := Lib.hid (pages_drop (base := base) (area := d.area) (used := pagesTo L k) hlt)
           have HM := Lib.hid (fun x => pagesTo_mem (x := x) (Nat.le_of_lt hlt))
           have HN := Lib.hid (pagesTo_succ hlt)
           generalize (entAt L k).2 = pg at *
           clear hcc
           by_cases p1 : pg ≤ base
           · have i1 : decide (pg ≤ base) = true := decide_eq_true p1
             have hD : Hid (pagesB base d.area [] L = false) := Lib.hid (by rw [Hpg.out, HP.out, decide_eq_false (show ¬ base < pg by omega)]; simp)
             clear p1
             go_wp2
             go_ret
             exact ⟨by rw [HR.out, hD.out]; rfl, HX1.out⟩
           · have i1 : decide (pg ≤ base) = false := decide_eq_false p1
             by_cases p2 : base + d.area < pg
             · have i2 : decide (base + d.area < pg) = true := decide_eq_true p2
               have hD : Hid (pagesB base d.area [] L = false) := Lib.hid (by rw [Hpg.out, HP.out, decide_eq_false (show ¬ pg ≤ base + d.area by omega)]; simp)
               clear p1 p2
               go_wp2
               go_ret
               exact ⟨by rw [HR.out, hD.out]; rfl, HX1.out⟩
             · have i2 : decide (base + d.area < pg) = false := decide_eq_false p2
               have HQ : Hid (pagesB base d.area [] L = (!((pagesTo L k).contains pg) && pagesB base d.area (pg :: pagesTo L k) (L.drop (k + 1)))) := Lib.hid (by rw [Hpg.out, HP.out, decide_eq_true (show base < pg by omega), decide_eq_true (show pg ≤ base + d.area by omega)]; simp)
               clear p1 p2 HP Hpg
               go_upto_region 10 with (fail)
               go_loopw [9] (fun j wj => ∃ (x : Nat), x ≤ k ∧ j = .int .i64 x ∧ (∀ i, i < x → (entAt L i).2 ≠ pg) ∧ wj = wr) (fun j _ => k - (intOf j).toNat)
               case atStart => exact ⟨0, Nat.zero_le _, rfl, fun i h => absurd h (Nat.not_lt_zero _), rfl⟩
               case round =>
                 obtain ⟨x, hx, rfl, hno, rfl⟩ := hrel
                 have Hno := Lib.hid hno
                 clear hno
                 by_cases hxk : x < k
                 · have hxI : (x : Int) < k := by omega
                   have hxl : (x : Int) < L.length := by omega
                   have hcx := (HC.out x (by omega)).2
                   by_cases he : (entAt L x).2 = pg
                   · have heI : ((entAt L x).2 == pg) = true := by simp [he]
                     have hD : Hid (pagesB base d.area [] L = false) := Lib.hid (by
                       rw [HQ.out]
                       have : (pagesTo L k).contains pg = true := by rw [List.contains_eq_mem, decide_eq_true_eq]; exact (HM.out pg).2 ⟨x, hxk, he⟩
                       rw [this]; rfl)
                     generalize (entAt L x).2 = px at *
                     clear he
                     go_wp2
                     go_ret
                     exact ⟨by rw [HR.out, hD.out]; rfl, HX1.out⟩
                   · have heI : ((entAt L x).2 == pg) = false := by simp [he]
                     have hn2 : Hid (∀ i, i < x + 1 → (entAt L i).2 ≠ pg) := Lib.hid fun i hi => by
                       by_cases h : i = x
                       · rw [h]; exact he
                       · exact Hno.out i (by omega)
                     generalize (entAt L x).2 = px at *
                     clear he
                     go_wp2
                     go_roundw
                     case rel => exact ⟨x + 1, by omega, by go_num, hn2.out, trivial⟩
                     case measure => simp [intOf]; omega
                 · have hxI : decide ((x : Int) < k) = false := decide_eq_false (by omega)
                   have hD : Hid (pagesB base d.area [] L = pagesB base d.area (pagesTo L (k + 1)) (L.drop (k + 1))) := Lib.hid (by
                     rw [HQ.out, HN.out]
                     have : (pagesTo L k).contains pg = false := by
                       rw [List.contains_eq_mem, decide_eq_false_iff_not]
                       intro hm
                       obtain ⟨i, hi, he⟩ := (HM.out pg).1 hm
                       exact Hno.out i (by omega) he
                     rw [this]; simp)
                   go_wp2
                   go_roundw
                   case rel => exact ⟨k + 1, by omega, by go_num, hD.out, trivial⟩
                   case measure => simp [intOf]; omega
         · have hltI : decide ((k : Int) < L.length) = false := decide_eq_false (by omega)
           have hD : Hid (pagesB base d.area [] L = true) := Lib.hid (by rw [Hpg.out, List.drop_eq_nil_of_le (by omega)]; rfl)
           go_wp2
           go_ret
           exact ⟨by rw [HR.out, hD.out]; rfl, HX1.out⟩
     · have i2 : decide (d.area < (n.ents.length : Int)) = true := decide_eq_true (by omega)
       rw [decide_eq_false hfw] at HR
       clear hfw
       go_wp2_with (first
         | ((with_reducible (show wpList _ _ _ (⟨some 12, _, _, _, _, _⟩ :: _) _ _)); refine wpList_row (o := ⟨some 12, _, _, _, _, _⟩) rfl 26 (.tmp 5) rfl _ rfl _ _ _ hb0 ndDesc rfl ndSize ?_)
         | (go_at_call 78; refine (HV.out _ he0).mono ?_; rintro e w1 ⟨rfl, he1⟩; have n0 := Blk.val (he1.blk _ _ hb0) 0 _ rfl; have n2 := Blk.val (he1.blk _ _ hb0) 2 _ rfl; have nl := Blk.lt (he1.blk _ _ hb0); have a8 : w1.cell? ⟨w.heap.size, 8, none⟩ = some (.int .i64 d.area) := Blk.val (he1.blk _ _ HD.out.1) 8 _ rfl; have la := Blk.lt (he1.blk _ _ HD.out.1)))
       go_ret
       exact ⟨by rw [HR.out]; rfl, he0.trans he1⟩
   · have i1 : (n.level != 0) = true := by simp [hlv]
     rw [decide_eq_false hlv] at HR
     clear hlv
     go_wp2_with (first
       | ((with_reducible (show wpList _ _ _ (⟨some 12, _, _, _, _, _⟩ :: _) _ _)); refine wpList_row (o := ⟨some 12, _, _, _, _, _⟩) rfl 26 (.tmp 5) rfl _ rfl _ _ _ hb0 ndDesc rfl ndSize ?_)
       | (go_at_call 78; refine (HV.out _ he0).mono ?_; rintro e w1 ⟨rfl, he1⟩; have n0 := Blk.val (he1.blk _ _ hb0) 0 _ rfl; have nl := Blk.lt (he1.blk _ _ hb0)))
     go_ret
     exact ⟨by rw [HR.out]; rfl, he0.trans he1⟩
end Go.Proofs.YtifmbcjbccedfaaGreatDoor
