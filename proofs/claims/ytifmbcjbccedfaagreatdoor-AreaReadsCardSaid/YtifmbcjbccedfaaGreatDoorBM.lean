/- A part of the proof. -/
import Derived.Test.YtifmbcjbccedfaaGreatDoorBJ
import Derived.Test.YtifmbcjbccedfaaGreatDoorAP

set_option linter.unusedSimpArgs false
set_option linter.unusedVariables false
namespace Dsd
theorem usedG_at {L : List Ent} {k : Nat} {x : Int} : (usedG L k x).getD false = (pagesTo L k).contains x := by
 unfold usedG pagesTo
 rw [List.contains_eq_mem, Bool.eq_iff_iff, decide_eq_true_eq, List.mem_reverse]
 split
 · rename_i h; exact ⟨fun _ => h, fun _ => rfl⟩
 · rename_i h; exact ⟨fun e => (by cases e), fun e => absurd e h⟩
end Dsd
namespace Go.Proofs.YtifmbcjbccedfaaGreatDoor
open Go.RowKit Dsd
set_option maxRecDepth 100000 in
set_option maxHeartbeats 4000000 in
theorem shapedG_anyW (d : DS) (a : Ar) (q : Option Addr) (c : Nat) (p : Option Addr) (m : Nat) (w : World) (hk : keyedB d = true) (hv : ArW w a q c p m) (hl : a.nd.ents.length ≤ 1000000) :
   Calls Tryz.prog 32 #[.agg #[.int .i64 d.id, .int .i64 d.org, .int .i64 d.format, .int .i64 d.length, .int .i64 d.block, .int .i64 d.keyAt, .int .i64 d.keyLength, .int .i64 d.interval, .int .i64 d.area, .int .i64 d.freeInterval, .int .i64 d.freeArea, .int .i64 d.base, .int .i64 d.altAt, .int .i64 d.altLength, .bool d.unique, .int .i64 d.cls, .string ⟨d.volume.toArray⟩, .string ⟨d.owner.toArray⟩, .int .i64 d.created, .int .i64 d.expires, .bool d.archived], .agg (arC a q c p m)] w fun e w' => e = .returned (.bool (shapedB d a.base a.nd)) ∧ Ext w w' := by
 have HB := Lib.hid (fun W => isBase_any a.base W)
 have HV := Lib.hid (fun W (e : Ext w W) => ValidN_any d.interval q c a.nd W (hv.ents.ext e) hl)
 have HR : Hid (shapedB d a.base a.nd = (isBaseB a.base && nodeFits d.interval a.nd && decide (a.nd.level = 0) && decide ((a.nd.ents.length : Int) ≤ d.area) && pagesB a.base d.area [] a.nd.ents)) := Lib.hid rfl
 have ha1 : 2 ≤ d.area := by have := keyed_spec hk; omega
 have ha2' : d.area ≤ 8 := by have := keyed_spec hk; omega
 have Hents := Lib.hid hv.ents
 unfold ndV at HV
 have hmm := @run_makeMap Tryz.prog
 clear hk hv
 go_enter Tryz.func32, Tryz.ntmps32
 go_upto_region 1 with (fail)
 refine wp_name (fun w0 => Ext w w0 ∧ DsAt w0 w.heap.size d ∧ ArAt w0 (w.heap.size + 1) a q c p m) (ds_ar w d a q c p m) ?_
 rintro w0 ⟨he0, hd0, ha0⟩
 obtain ⟨c0, c1, c2, c3, c4, la⟩ := ha0.cells
 have d7 := Blk.val hd0 7 _ rfl
 have ld := Blk.lt hd0
 cases hb : isBaseB a.base
 · rw [hb] at HB HR
   clear hb
   go_wp2_with (go_at_call 30; refine (HB.out _).mono ?_; rintro e w1 ⟨rfl, rfl⟩)
   go_ret
   exact ⟨by rw [HR.out]; rfl, he0⟩
 · rw [hb] at HB HR
   have hb1 : 1 ≤ a.base := by unfold isBaseB at hb; simp only [Bool.and_eq_true, decide_eq_true_eq] at hb; omega
   have hb2 : a.base ≤ 16777208 := by unfold isBaseB at hb; simp only [Bool.and_eq_true, decide_eq_true_eq] at hb; omega
   have hw1 : IntKind.i64.wrap (a.base + d.area) = a.base + d.area := IntWalk.i64_in _ (by omega)
   clear hb
   cases hn : nodeFits d.interval a.nd
   · rw [hn] at HV HR
     clear hn
     go_wp2_with (first
       | (go_at_call 30; refine (HB.out _).mono ?_; rintro e w1 ⟨rfl, rfl⟩)
       | ((with_reducible (show wpList _ _ _ (⟨some 16, _, _, _, _, _⟩ :: _) _ _)); refine wpList_part (o := ⟨some 16, _, _, _, _, _⟩) rfl 26 (.tmp 15) rfl (w.heap.size + 1) 1 rfl _ (arC a q c p m) #[.int .i64 a.nd.level, .int .i64 a.nd.next, .slice q a.nd.ents.length c] _ ha0 (ar_part a q c p m) ndDesc rfl ndSize ?_)
       | (go_at_call 70; refine (HV.out _ he0).mono ?_; rintro e w2 ⟨rfl, he2⟩))
     go_ret
     exact ⟨by rw [HR.out]; rfl, he0.trans he2⟩
   · rw [hn] at HV HR
     have hnd : nodeB a.nd = true := by unfold nodeFits at hn; simp only [Bool.and_eq_true] at hn; exact hn.1.2
     have ns := node_iff.1 hnd
     have HP := Lib.hid (fun k (hk : k < a.nd.ents.length) => (entsB_len a.nd.ents [] ns.ents (entAt a.nd.ents k) (by simp [entAt, List.getD, hk])).2)
     have hl120 := ns.l2
     clear hn hnd ns hl
     by_cases hlv : a.nd.level = 0
     · have i1 : (a.nd.level != 0) = false := by rw [hlv]; rfl
       rw [decide_eq_true hlv] at HR
       clear hlv
       by_cases hfw : (a.nd.ents.length : Int) ≤ d.area
       · have i2 : decide (d.area < (a.nd.ents.length : Int)) = false := decide_eq_false (by omega)
         have HRp : Hid (shapedB d a.base a.nd = pagesB a.base d.area [] a.nd.ents) := Lib.hid (by rw [HR.out, decide_eq_true hfw]; simp)
         clear hfw HR
         go_upto_region 3 with (first
           | (go_at_call 30; refine (HB.out _).mono ?_; rintro e w1 ⟨rfl, rfl⟩)
           | ((with_reducible (show wpList _ _ _ (⟨some 16, _, _, _, _, _⟩ :: _) _ _)); refine wpList_part (o := ⟨some 16, _, _, _, _, _⟩) rfl 26 (.tmp 15) rfl (w.heap.size + 1) 1 rfl _ (arC a q c p m) #[.int .i64 a.nd.level, .int .i64 a.nd.next, .slice q a.nd.ents.length c] _ ha0 (ar_part a q c p m) ndDesc rfl ndSize ?_)
           | (go_at_call 70; refine (HV.out _ he0).mono ?_; rintro e w2 ⟨rfl, he2⟩; have ha2 := ha0.ext he2; have hd2 := hd0.ext he2; obtain ⟨e0, e1, e2, e3, e4, la2⟩ := ha2.cells; have e8 := Blk.val hd2 8 _ rfl; have ld2 := Blk.lt hd2))
         have Hwx := Lib.hid (he0.trans he2)
         clear c0 c1 c2 c3 c4 d7 la ld
         go_upto_region 5 with (fail)
         refine wp_name (fun w3 => Ext w2 w3 ∧ MapAt usedM w3 w2.heap.size 0 (usedG a.nd.ents 0) 0) ⟨Ext.alloc _ _, by rw [usedG_zero]; exact MapAt.made usedM _⟩ ?_
         rintro w3 ⟨he3, hm3⟩
         have HU := Lib.hid (fun k (hk : k < a.nd.ents.length) => usedG_step hk)
         have HL := Lib.hid hl120
         have Hda := Lib.hid (And.intro hd2 ha2)
         have Hen2 := Lib.hid (Hents.out.ext Hwx.out)
         clear e0 e1 e2 e3 e4 e8 la2 ld2 hd2 ha2 hmm i1 i2 hl120 HV HB he0 he2
         generalize a.nd.ents = L at *
         go_loopw [40] (fun i wr => ∃ k : Nat, k ≤ L.length ∧ i = .int .i64 k ∧ (∃ sz, MapAt usedM wr w2.heap.size k (usedG L k) sz) ∧ pagesB a.base d.area [] L = pagesB a.base d.area (pagesTo L k) (L.drop k) ∧ Ext w2 wr) (fun i _ => L.length - (intOf i).toNat)
         case atStart => exact ⟨0, Nat.zero_le _, rfl, ⟨_, hm3⟩, rfl, he3⟩
         case round =>
           obtain ⟨k, hk, rfl, ⟨sz, hM⟩, hpg, hex⟩ := hrel
           have Hex := Lib.hid hex
           have Hpg := Lib.hid hpg
           clear hpg
           by_cases hlt : k < L.length
           · have hltI : (k : Int) < L.length := by omega
             obtain ⟨g, off, rfl, hgb, hcc⟩ := (Hen2.out.ext hex).at k hlt
             obtain ⟨hck0, hck1⟩ := hcc k hlt
             have HS1 := Lib.hid (HU.out k hlt)
             have HS2 : Hid ((usedG L k (entAt L k).2).getD false = (pagesTo L k).contains (entAt L k).2) := Lib.hid usedG_at
             have HDr := Lib.hid (pages_drop (base := a.base) (area := d.area) (used := pagesTo L k) hlt)
             have HN := Lib.hid (pagesTo_succ hlt)
             have hpb := HP.out k hlt
             clear hcc
             generalize entAt L k = x at *
             obtain ⟨bel, pg⟩ := x
             simp only at hck0 hck1 HS1 HS2 hpb HDr HN
             unfold pageB at hpb
             simp only [Bool.and_eq_true, decide_eq_true_eq] at hpb
             have hwf : Hid ((Lit.int .i64 pg).wf = true) := Lib.hid (by simp [Lit.wf, IntKind.min, IntKind.max, IntKind.signed, IntKind.bits]; omega)
             have HM := Lib.hid hM
             clear hM
             go_upto_region 7 with (fail)
             refine wp_name (fun w4 => Ext wr w4 ∧ Blk w4 wr.heap.size (.cells #[.string ⟨bel.toArray⟩, .int .i64 pg] 63)) ⟨Ext.alloc _ _, Blk.new _ _⟩ ?_
             rintro w4 ⟨he4, hx4⟩
             have hM4 := HM.out.ext he4
             have hd4 := Hda.out.1.ext (Hex.out.trans he4)
             have ha4 := Hda.out.2.ext (Hex.out.trans he4)
             have HX4 := Lib.hid (Hwx.out.trans (Hex.out.trans he4))
             obtain ⟨e0, e1, e2, e3, e4, la4⟩ := ha4.cells
             have e8 := Blk.val hd4 8 _ rfl
             have ld4 := Blk.lt hd4
             have x1 := Blk.val hx4 1 _ rfl
             have lx := Blk.lt hx4
             clear hck0 hck1 hpb hgb
             have hl120 := HL.out
             cases hc : (pagesTo L k).contains pg
             · rw [hc] at HS2 HDr
               clear hc
               by_cases p1 : pg ≤ a.base
               · have j1 : decide (pg ≤ a.base) = true := decide_eq_true p1
                 have hF : Hid (pagesB a.base d.area [] L = false) := Lib.hid (by rw [Hpg.out, HDr.out, decide_eq_false (show ¬ a.base < pg by omega)]; simp)
                 clear p1
                 go_wp2_with ((with_reducible (show wpList _ _ _ (⟨some 47, _, _, _, _, _⟩ :: _) _ _)); refine wpList_used_get (o := ⟨some 47, _, _, _, _, _⟩) rfl (.tmp 44) (.tmp 46) rfl rfl hM4 pg rfl hwf.out false HS2.out ?_)
                 go_ret
                 exact ⟨by rw [HRp.out, hF.out]; rfl, HX4.out⟩
               · have j1 : decide (pg ≤ a.base) = false := decide_eq_false p1
                 by_cases p2 : a.base + d.area < pg
                 · have j2 : decide (a.base + d.area < pg) = true := decide_eq_true p2
                   have hF : Hid (pagesB a.base d.area [] L = false) := Lib.hid (by rw [Hpg.out, HDr.out, decide_eq_false (show ¬ pg ≤ a.base + d.area by omega)]; simp)
                   clear p1 p2
                   go_wp2_with ((with_reducible (show wpList _ _ _ (⟨some 47, _, _, _, _, _⟩ :: _) _ _)); refine wpList_used_get (o := ⟨some 47, _, _, _, _, _⟩) rfl (.tmp 44) (.tmp 46) rfl rfl hM4 pg rfl hwf.out false HS2.out ?_)
                   go_ret
                   exact ⟨by rw [HRp.out, hF.out]; rfl, HX4.out⟩
                 · have j2 : decide (a.base + d.area < pg) = false := decide_eq_false p2
                   have hQ : Hid (pagesB a.base d.area [] L = pagesB a.base d.area (pagesTo L (k + 1)) (L.drop (k + 1))) := Lib.hid (by rw [Hpg.out, HDr.out, HN.out, decide_eq_true (show a.base < pg by omega), decide_eq_true (show pg ≤ a.base + d.area by omega)]; simp)
                   clear p1 p2
                   go_wp2_with (first
                     | ((with_reducible (show wpList _ _ _ (⟨some 47, _, _, _, _, _⟩ :: _) _ _)); refine wpList_used_get (o := ⟨some 47, _, _, _, _, _⟩) rfl (.tmp 44) (.tmp 46) rfl rfl hM4 pg rfl hwf.out false HS2.out ?_)
                     | (refine wpList_used_put (o := ⟨none, _, _, _, _, _⟩) rfl (.tmp 65) (.tmp 67) rfl rfl hM4 (by have := HL.out; unfold maxLen; omega) pg rfl hwf.out ?_; rw [HS1.out]; intro w5 hM5 hc5; have he5 := Lib.hid (hc5.ext (Hex.out.trans he4) (Nat.le_refl _))))
                   go_roundw
                   case rel => exact ⟨k + 1, by omega, by go_num, ⟨_, hM5⟩, hQ.out, he5.out⟩
                   case measure => simp [intOf]; omega
             · rw [hc] at HS2 HDr
               clear hc
               have hF : Hid (pagesB a.base d.area [] L = false) := Lib.hid (by rw [Hpg.out, HDr.out]; simp)
               go_wp2_with ((with_reducible (show wpList _ _ _ (⟨some 47, _, _, _, _, _⟩ :: _) _ _)); refine wpList_used_get (o := ⟨some 47, _, _, _, _, _⟩) rfl (.tmp 44) (.tmp 46) rfl rfl hM4 pg rfl hwf.out true HS2.out ?_)
               go_ret
               exact ⟨by rw [HRp.out, hF.out]; rfl, HX4.out⟩
           · have hltI : decide ((k : Int) < L.length) = false := by simp; omega
             have hF : Hid (pagesB a.base d.area [] L = true) := Lib.hid (by rw [Hpg.out, List.drop_eq_nil_of_le (by omega)]; rfl)
             go_wp2
             go_ret
             exact ⟨by rw [HRp.out, hF.out]; rfl, Hwx.out.trans hex⟩
       · have i2 : decide (d.area < (a.nd.ents.length : Int)) = true := decide_eq_true (by omega)
         rw [decide_eq_false hfw] at HR
         clear hfw
         go_wp2_with (first
           | (go_at_call 30; refine (HB.out _).mono ?_; rintro e w1 ⟨rfl, rfl⟩)
           | ((with_reducible (show wpList _ _ _ (⟨some 16, _, _, _, _, _⟩ :: _) _ _)); refine wpList_part (o := ⟨some 16, _, _, _, _, _⟩) rfl 26 (.tmp 15) rfl (w.heap.size + 1) 1 rfl _ (arC a q c p m) #[.int .i64 a.nd.level, .int .i64 a.nd.next, .slice q a.nd.ents.length c] _ ha0 (ar_part a q c p m) ndDesc rfl ndSize ?_)
           | (go_at_call 70; refine (HV.out _ he0).mono ?_; rintro e w2 ⟨rfl, he2⟩; have ha2 := ha0.ext he2; have hd2 := hd0.ext he2; obtain ⟨e0, e1, e2, e3, e4, la2⟩ := ha2.cells; have e8 := Blk.val hd2 8 _ rfl; have ld2 := Blk.lt hd2))
         go_ret
         exact ⟨by rw [HR.out]; rfl, he0.trans he2⟩
     · have i1 : (a.nd.level != 0) = true := by simp [hlv]
       rw [decide_eq_false hlv] at HR
       clear hlv
       go_wp2_with (first
         | (go_at_call 30; refine (HB.out _).mono ?_; rintro e w1 ⟨rfl, rfl⟩)
         | ((with_reducible (show wpList _ _ _ (⟨some 16, _, _, _, _, _⟩ :: _) _ _)); refine wpList_part (o := ⟨some 16, _, _, _, _, _⟩) rfl 26 (.tmp 15) rfl (w.heap.size + 1) 1 rfl _ (arC a q c p m) #[.int .i64 a.nd.level, .int .i64 a.nd.next, .slice q a.nd.ents.length c] _ ha0 (ar_part a q c p m) ndDesc rfl ndSize ?_)
         | (go_at_call 70; refine (HV.out _ he0).mono ?_; rintro e w2 ⟨rfl, he2⟩; have ha2 := ha0.ext he2; have hd2 := hd0.ext he2; obtain ⟨e0, e1, e2, e3, e4, la2⟩ := ha2.cells; have e8 := Blk.val hd2 8 _ rfl; have ld2 := Blk.lt hd2))
       go_ret
       exact ⟨by rw [HR.out]; rfl, he0.trans he2⟩
end Go.Proofs.YtifmbcjbccedfaaGreatDoor
