/- A part of the proof. -/
import Derived.Test.YtifmbcjbccedfaaGreatDoorAP
import Derived.Test.YtifmbcjbccedfaaGreatDoorBK

set_option linter.unusedSimpArgs false
set_option linter.unusedVariables false
namespace Dsd
theorem usedG_at {L : List Ent} {k : Nat} {x : Int} : (usedG L k x).getD false = (pagesTo L k).contains x := by
 unfold usedG pagesTo
 rw [List.contains_eq_mem, Bool.eq_iff_iff, decide_eq_true_eq, List.mem_reverse]
 split
 · rename_i h; exact ⟨fun _ => h, fun _ => rfl⟩
 · rename_i h; exact ⟨fun e => (by cases e), fun e => absurd e h⟩
end Dsd
namespace Go.Proofs.YtifmbcjbccedfaaGreatDoor
open Go.RowKit Dsd
set_option maxRecDepth 100000 in
set_option maxHeartbeats 4000000 in
theorem shapedG_anyW (d : DS) (a : Ar) (q : Option Addr) (c : Nat) (p : Option Addr) (m : Nat) (w : World) (hk : keyedB d = true) (hv : ArW w a q c p m) (hl : a.nd.ents.length ≤ 1000000) :
   Calls Tryz.prog 32 #[.agg #[.int .i64 d.id, .int .i64 d.org, .int .i64 d.format, .int .i64 d.length, .int .i64 d.block, .int .i64 d.keyAt, .int .i64 d.keyLength, .int .i64 d.interval, .int .i64 d.area, .int .i64 d.freeInterval, .int .i64 d.freeArea, .int .i64 d.base, .int .i64 d.altAt, .int .i64 d.altLength, .bool d.unique, .int .i64 d.cls, .string ⟨d.volume.toArray⟩, .string ⟨d.owner.toArray⟩, .int .i64 d.created, .int .i64 d.expires, .bool d.archived], .agg (arC a q c p m)] w fun e w' => e = .returned (.bool (shapedB d a.base a.nd)) ∧ Ext w w' := by
 have HB := Lib.hid (fun W => isBase_any a.base W)
 have HV := Lib.hid (fun W (e : Ext w W) => ValidN_any d.interval q c a.nd W (hv.ents.ext e) hl)
 have HR : Hid (shapedB d a.base a.nd = (isBaseB a.base && nodeFits d.interval a.nd && decide (a.nd.level = 0) && decide ((a.nd.ents.length : Int) ≤ d.area) && pagesB a.base d.area [] a.nd.ents)) := Lib.hid rfl
 have ha1 : 2 ≤ d.area := by have := keyed_spec hk; omega
 have ha2' : d.area ≤ 8 := by have := keyed_spec hk; omega
 have Hents := Lib.hid hv.ents
 unfold ndV at HV
 have hmm := @run_makeMap Tryz.prog
 clear hk hv
 go_enter Tryz.func32, Tryz.ntmps32
 go_upto_region 1 with (fail)
 refine wp_name (fun w0 => Ext w w0 ∧ DsAt w0 w.heap.size d ∧ ArAt w0 (w.heap.size + 1) a q c p m) (ds_ar w d a q c p m) ?_
 rintro w0 ⟨he0, hd0, ha0⟩
 obtain ⟨c0, c1, c2, c3, c4, la⟩ := ha0.cells
 have d7 := Blk.val hd0 7 _ rfl
 have ld := Blk.lt hd0
 cases hb : isBaseB a.base
 · rw [hb] at HB HR
   clear hb
   go_wp2_with (go_at_call 30; refine (HB.out _).mono ?_; rintro e w1 ⟨rfl, rfl⟩)
   go_ret
   exact ⟨by rw [HR.out]; rfl, he0⟩
 · rw [hb] at HB HR
   have hb1 : 1 ≤ a.base := by unfold isBaseB at hb; simp only [Bool.and_eq_true, decide_eq_true_eq] at hb; omega
   have hb2 : a.base ≤ 16777208 := by unfold isBaseB at hb; simp only [Bool.and_eq_true, decide_eq_true_eq] at hb; omega
   have hw1 : IntKind.i64.wrap (a.base + d.area) = a.base + d.area := IntWalk.i64_in _ (by omega)
   clear hb
   cases hn : nodeFits d.interval a.nd
   · rw [hn] at HV HR
     clear hn
     go_wp2_with (first
       | (go_at_call 30; refine (HB.out _).mono ?_; rintro e w1 ⟨rfl, rfl⟩)
       | ((with_reducible (show wpList _ _ _ (⟨some 16, _, _, _, _, _⟩ :: _) _ _)); refine wpList_part (o := ⟨some 16, _, _, _, _, _⟩) rfl 26 (.tmp 15) rfl (w.heap.size + 1) 1 rfl _ (arC a q c p m) #[.int .i64 a.nd.level, .int .i64 a.nd.next, .slice q a.nd.ents.length c] _ ha0 (ar_part a q c p m) ndDesc rfl ndSize ?_)
       | (go_at_call 70; refine (HV.out _ he0).mono ?_; rintro e w2 ⟨rfl, he2⟩))
     go_ret
     exact ⟨by rw [HR.out]; rfl, he0.trans he2⟩
   · rw [hn] at HV HR
     have hnd : nodeB a.nd = true := by unfold nodeFits at hn; simp only [Bool.and_eq_true] at hn; exact hn.1.2
     have ns := node_iff.1 hnd
     have HP := Lib.hid (fun k (hk : k < a.nd.ents.length) => (entsB_len a.nd.ents [] ns.ents (entAt a.nd.ents k) (by simp [entAt, List.getD, hk])).2)
     have hl120 := ns.l2
     clear hn hnd ns hl
     by_cases hlv : a.nd.level = 0
     · have i1 : (a.nd.level != 0) = false := by rw [hlv]; rfl
       rw [decide_eq_true hlv] at HR
       clear hlv
       by_cases hfw : (a.nd.ents.length : Int) ≤ d.area
       · have i2 : decide (d.area < (a.nd.ents.length : Int)) = false := decide_eq_false (by omega)
         have HRp : Hid (shapedB d a.base a.nd = pagesB a.base d.area [] a.nd.ents) := Lib.hid (by rw [HR.out, decide_eq_true hfw]; simp)
         clear hfw HR
         go_upto_region 3 with (first
           | (go_at_call 30; refine (HB.out _).mono ?_; rintro e w1 ⟨rfl, rfl⟩)
           | ((with_reducible (show wpList _ _ _ (⟨some 16, _, _, _, _, _⟩ :: _) _ _)); refine wpList_part (o := ⟨some 16, _, _, _, _, _⟩) rfl 26 (.tmp 15) rfl (w.heap.size + 1) 1 rfl _ (arC a q c p m) #[.int .i64 a.nd.level, .int .i64 a.nd.next, .slice q a.nd.ents.length c] _ ha0 (ar_part a q c p m) ndDesc rfl ndSize ?_)
           | (go_at_call 70; refine (HV.out _ he0).mono ?_; rintro e w2 ⟨rfl, he2⟩; have ha2 := ha0.ext he2; have hd2 := hd0.ext he2; obtain ⟨e0, e1, e2, e3, e4, la2⟩ := ha2.cells; have e8 := Blk.val hd2 8 _ rfl; have ld2 := Blk.lt hd2))
         have Hwx := Lib.hid (he0.trans he2)
         clear c0 c1 c2 c3 c4 d7 la ld
         go_upto_region 5 with (fail)
         refine wp_name (fun w3 => Ext w2 w3 ∧ MapAt usedM w3 w2.heap.size 0 (usedG a.nd.ents 0) 0) ⟨Ext.alloc _ _, by rw [usedG_zero]; exact MapAt.made usedM _⟩ ?_
         rintro w3 ⟨he3, hm3⟩
         have HU := Lib.hid (fun k (hk : k < a.nd.ents.length) => usedG_step hk)
         have HL := Lib.hid hl120
         have Hda := Lib.hid (And.intro hd2 ha2)
         have Hen2 := Lib.hid (Hents.out.ext Hwx.out)
         clear e0 e1 e2 e3 e4 e8 la2 ld2 hd2 ha2 hmm i1 i2 hl120 HV HB he0 he2
         generalize a.nd.ents = L at *
         go_loopw [40] (fun i wr => ∃ k : Nat, k ≤ L.length ∧ i = .int .i64 k ∧ (∃ sz, MapAt usedM wr w2.heap.size k (usedG L k) sz) ∧ pagesB a.base d.area [] L = pagesB a.base d.area (pagesTo L k) (L.drop k) ∧ Ext w2 wr) (fun i _ => L.length - (intOf i).toNat)
         case atStart => exact ⟨0, Nat.zero_le _, rfl, ⟨_, hm3⟩, rfl, he3⟩
         case round =>
           obtain ⟨k, hk, rfl, ⟨sz, hM⟩, hpg, hex⟩ := hrel
           have Hex := Lib.hid hex
           have Hpg := Lib.hid hpg
           clear hpg
           by_cases hlt : k < L.length
           · have hltI : (k : Int) < L.length := by omega
             obtain ⟨g, off, rfl, hgb, hcc⟩ := (Hen2.out.ext hex).at k hlt
             obtain ⟨hck0, hck1⟩ := hcc k hlt
             have HS1 := Lib.hid (HU.out k hlt)
             have HS2 : Hid ((usedG L k (entAt L k).2).getD false = (pagesTo L k).contains (entAt L k).2) := Lib.hid usedG_at
             have HDr := Lib.hid (pages_drop (base := a.base) (area := d.area) (used := pagesTo L k) hlt)
             have HN := Lib.hid (pagesTo_succ hlt)
             have hpb := HP.out k hlt
             clear hcc
             generalize entAt L k = x at *
             obtain ⟨bel, pg⟩ := x
             simp only at hck0 hck1 HS1 HS2 hpb HDr HN
             unfold pageB at hpb
             simp only [Bool.and_eq_true, decide_eq_true_eq] at hpb
             have hwf : Hid ((Lit.int .i64 pg).wf = true) := Lib.hid (by simp [Lit.wf, IntKind.min, IntKind.max, IntKind.signed, IntKind.bits]; omega)
             have HM := Lib.hid hM
             clear hM
             go_upto_region 7 with (fail)
             refine wp_name (fun w4 => Ext wr w4 ∧ Blk w4 wr.heap.size (.cells #[.string ⟨bel.toArray⟩, .int .i64 pg] 63)) ⟨Ext.alloc _ _, Blk.new _ _⟩ ?_
             rintro w4 ⟨he4, hx4⟩
             have hM4 := HM.out.ext he4
             have hd4 := Hda.out.1.ext (Hex.out.trans he4)
             have ha4 := Hda.out.2.ext (Hex.out.trans he4)
             have HX4 := Lib.hid (Hwx.out.trans (Hex.out.trans he4))
             obtain ⟨e0, e1, e2, e3, e4, la4⟩ := ha4.cells
             have e8 := Blk.val hd4 8 _ rfl
             have ld4 := Blk.lt hd4
             have x1 := Blk.val hx4 1 _ rfl
             have lx := Blk.lt hx4
             clear hck0 hck1 hpb hgb
             have hl120 := HL.out
             cases hc : (pagesTo L k).contains pg
             · rw [hc] at HS2 HDr
               clear hc
               by_cases p1 : pg ≤ a.base
               · have j1 : decide (pg ≤ a.base) = true := decide_eq_true p1
                 have hF : Hid (pagesB a.base d.area [] L = false) := Lib.hid (by rw [Hpg.out, HDr.out, decide_eq_false (show ¬ a.base < pg by omega)]; simp)
                 clear p1
                 go_wp2_with ((with_reducible (show wpList _ _ _ (⟨some 47, _, _, _, _, _⟩ :: _) _ _)); refine wpList_used_get (o := ⟨some 47, _, _, _, _, _⟩) rfl (.tmp 44) (.tmp 46) rfl rfl hM4 pg rfl hwf.out false HS2.out ?_)
                 go_ret
                 exact ⟨by rw [HRp.out, hF.out]; rfl, HX4.out⟩
               · have j1 : decide (pg ≤ a.base) = false := decide_eq_false p1
                 by_cases p2 : a.base + d.area < pg
                 · have j2 : decide (a.base + d.area < pg) = true := decide_eq_true p2
                   have hF : Hid (pagesB a.base d.area [] L = false) := Lib.hid (by rw [Hpg.out, HDr.out, decide_eq_false (show ¬ pg ≤ a.base + d.area by omega)]; simp)
                   clear p1 p2
                   go_wp2_with ((with_reducible (show wpList _ _ _ (⟨some 47, _, _, _, _, _⟩ :: _) _ _)); refine wpList_used_get (o := ⟨some 47, _, _, _, _, _⟩) rfl (.tmp 44) (.tmp 46) rfl rfl hM4 pg rfl hwf.out false HS2.out ?_)
                   go_ret
                   exact ⟨by rw [HRp.out, hF.out]; rfl, HX4.out⟩
                 · have j2 : decide (a.base + d.area < pg) = false := decide_eq_false p2
                   have hQ : Hid (pagesB a.base d.area [] L = pagesB a.base d.area (pagesTo L (k + 1)) (L.drop (k + 1))) := Lib.hid (by rw [Hpg.out, HDr.out, HN.out, decide_eq_true (show a.base < pg by omega), decide_eq_true (show pg ≤ a.base + d.area by omega)]; simp)
                   clear p1 p2
                   go_wp2_with (first
                     | ((with_reducible (show wpList _ _ _ (⟨some 47, _, _, _, _, _⟩ :: _) _ _)); refine wpList_used_get (o := ⟨some 47, _, _, _, _, _⟩) rfl (.tmp 44) (.tmp 46) rfl rfl hM4 pg rfl hwf.out false HS2.out ?_)
                     | (refine wpList_used_put (o := ⟨none, _, _, _, _, _⟩) rfl (.tmp 65) (.tmp 67) rfl rfl hM4 (by have := HL.out; unfold maxLen; omega) pg rfl hwf.out ?_; rw [HS1.out]; intro w5 hM5 hc5; have he5 := Lib.hid (hc5.ext (Hex.out.trans he4) (Nat.le_refl _))))
                   go_roundw
                   case rel => exact ⟨k + 1, by omega, by go_num, ⟨_, hM5⟩, hQ.out, he5.out⟩
                   case measure => simp [intOf]; omega
             · rw [hc] at HS2 HDr
               clear hc
               have hF : Hid (pagesB a.base d.area [] L = false) := Lib.hid (by rw [Hpg.out, HDr.out]; simp)
               go_wp2_with ((with_reducible (show wpList _ _ _ (⟨some 47, _, _, _, _, _⟩ :: _) _ _)); refine wpList_used_get (o := ⟨some 47, _, _, _, _, _⟩) rfl (.tmp 44) (.tmp 46) rfl rfl hM4 pg rfl hwf.out true HS2.out ?_)
               go_ret
               exact ⟨by rw [HRp.out, hF.out]; rfl, HX4.out⟩
           · have hltI : decide ((k : Int) < L.length) = false := by simp; omega
             have hF : Hid (pagesB a.base d.area [] L = true) := Lib.hid (by rw [Hpg.out, List.drop_eq_nil_of_le (by omega)]; rfl)
             go_wp2
             go_ret
             exact ⟨by rw [HRp.out, hF.out]; rfl, Hwx.out.trans hex⟩
       · have i2 : decide (d.area < (a.nd.ents.length : Int)) = true := decide_eq_true (by omega)
         rw [decide_eq_false hfw] at HR
         clear hfw
         go_wp2_with (first
           | (go_at_call 30; refine (HB.out _).mono ?_; rintro e w1 ⟨rfl, rfl⟩)
           | ((with_reducible (show wpList _ _ _ (⟨some 16, _, _, _, _, _⟩ :: _) _ _)); refine wpList_part (o := ⟨some 16, _, _, _, _, _⟩) rfl 26 (.tmp 15) rfl (w.heap.size + 1) 1 rfl _ (arC a q c p m) #[.int .i64 a.nd.level, .int .i64 a.nd.next, .slice q a.nd.ents.length c] _ ha0 (ar_part a q c p m) ndDesc rfl ndSize ?_)
           | (go_at_call 70; refine (HV.out _ he0).mono ?_; rintro e w2 ⟨rfl, he2⟩; have ha2 := ha0.ext he2; have hd2 := hd0.ext he2; obtain ⟨e0, e1, e2, e3, e4, la2⟩ := ha2.cells; have e8 := Blk.val hd2 8 _ rfl; have ld2 := Blk.lt hd2))
         go_ret
         exact ⟨by rw [HR.out]; rfl, he0.trans he2⟩
     · have i1 : (a.nd.level != 0) = true := by simp [hlv]
       rw [decide_eq_false hlv] at HR
       clear hlv
       go_wp2_with (first
         | (go_at_call 30; refine (HB.out _).mono ?_; rintro e w1 ⟨rfl, rfl⟩)
         | ((with_reducible (show wpList _ _ _ (⟨some 16, _, _, _, _, _⟩ :: _) _ _)); refine wpList_part (o := ⟨some 16, _, _, _, _, _⟩) rfl 26 (.tmp 15) rfl (w.heap.size + 1) 1 rfl _ (arC a q c p m) #[.int .i64 a.nd.level, .int .i64 a.nd.next, .slice q a.nd.ents.length c] _ ha0 (ar_part a q c p m) ndDesc rfl ndSize ?_)
         | (go_at_call 70; refine (HV.out _ he0).mono ?_; rintro e w2 ⟨rfl, he2⟩; have ha2 := ha0.ext he2; have hd2 := hd0.ext he2; obtain ⟨e0, e1, e2, e3, e4, la2⟩ := ha2.cells; have e8 := Blk.val hd2 8 _ rfl; have ld2 := Blk.lt hd2))
       go_ret
       exact ⟨by rw [HR.out]; rfl, he0.trans he2⟩
end Go.Proofs.YtifmbcjbccedfaaGreatDoor
namespace Go.Proofs.YtifmbcjbccedfaaGreatDoor
open Go.RowKit Dsd
set_option maxRecDepth 100000 in
set_option maxHeartbeats 12000000 in
theorem ValidG_anyW (d : DS) (a : Ar) (q : Option Addr) (c : Nat) (p : Option Addr) (m : Nat) (w : World) (hv : ArW w a q c p m) (h1 : a.nd.ents.length ≤ 1000000) (h2 : a.ivs.length ≤ 1000000) (h3 : ∀ i, Small (a.ivs.getD i [])) :
   Calls Tryz.prog 10 #[.agg #[.int .i64 d.id, .int .i64 d.org, .int .i64 d.format, .int .i64 d.length, .int .i64 d.block, .int .i64 d.keyAt, .int .i64 d.keyLength, .int .i64 d.interval, .int .i64 d.area, .int .i64 d.freeInterval, .int .i64 d.freeArea, .int .i64 d.base, .int .i64 d.altAt, .int .i64 d.altLength, .bool d.unique, .int .i64 d.cls, .string ⟨d.volume.toArray⟩, .string ⟨d.owner.toArray⟩, .int .i64 d.created, .int .i64 d.expires, .bool d.archived], .agg (arC a q c p m)] w fun e w' => e = .returned (.bool (areaB d a)) ∧ Ext w w' := by
 have HD := Lib.hid (fun W => described_any d W)
 have Hv := Lib.hid hv
 have H3 := Lib.hid h3
 have HA : Hid (areaB d a = (keyedB d && shapedB d a.base a.nd && decide (a.ivs.length = a.nd.ents.length) && ivsB d (decide (1 < a.ivs.length)) [] a.ivs a.nd.ents)) := Lib.hid rfl
 clear h3
 go_enter Tryz.func10, Tryz.ntmps10
 go_upto_region 1 with (fail)
 refine wp_name (fun w0 => Ext w w0 ∧ DsAt w0 w.heap.size d ∧ ArAt w0 (w.heap.size + 1) a q c p m) (ds_ar w d a q c p m) ?_
 rintro w0 ⟨he0, hd0, ha0⟩
 cases hk : keyedB d
 · rw [hk] at HD HA
   clear hk hv
   go_wp2_with (first
     | ((with_reducible (show wpList _ _ _ (⟨some 12, _, _, _, _, _⟩ :: _) _ _)); refine wpList_ds (o := ⟨some 12, _, _, _, _, _⟩) rfl (.tmp 2) rfl _ rfl d hd0 ?_)
     | (go_at_call 29; refine (HD.out _).mono ?_; rintro e w1 ⟨rfl, he1⟩; have hd1 := hd0.ext he1; have ha1 := ha0.ext he1))
   go_ret
   exact ⟨by rw [HA.out]; rfl, he0.trans he1⟩
 · rw [hk] at HD HA
   have HS := Lib.hid (fun W (e : Ext w W) => shapedG_anyW d a q c p m W hk (hv.ext e) h1)
   have Hkd := Lib.hid hk
   clear hk hv
   cases hh : shapedB d a.base a.nd
   · rw [hh] at HS HA
     clear hh
     go_wp2_with (first
       | ((with_reducible (show wpList _ _ _ (⟨some 12, _, _, _, _, _⟩ :: _) _ _)); refine wpList_ds (o := ⟨some 12, _, _, _, _, _⟩) rfl (.tmp 2) rfl _ rfl d hd0 ?_)
       | (go_at_call 29; refine (HD.out _).mono ?_; rintro e w1 ⟨rfl, he1⟩; have hd1 := hd0.ext he1; have ha1 := ha0.ext he1)
       | ((with_reducible (show wpList _ _ _ (⟨some 16, _, _, _, _, _⟩ :: _) _ _)); refine wpList_ds (o := ⟨some 16, _, _, _, _, _⟩) rfl (.tmp 2) rfl _ rfl d hd1 ?_)
       | ((with_reducible (show wpList _ _ _ (⟨some 17, _, _, _, _, _⟩ :: _) _ _)); refine wpList_row (o := ⟨some 17, _, _, _, _, _⟩) rfl 29 (.tmp 3) rfl _ rfl _ _ _ ha1 arDesc rfl arSize ?_)
       | (go_at_call 32; refine (HS.out _ (he0.trans he1)).mono ?_; rintro e w2 ⟨rfl, he2⟩; obtain ⟨f0, f1, f2, f3, f4, lf⟩ := (ha1.ext he2).cells))
     go_ret
     exact ⟨by rw [HA.out]; rfl, (he0.trans he1).trans he2⟩
   · rw [hh] at HS HA
     have hnd : nodeB a.nd = true := by
       unfold shapedB nodeFits at hh
       simp only [Bool.and_eq_true] at hh
       exact hh.1.1.1.2.1.2
     have HLast := Lib.hid (ents_lastB (node_iff.1 hnd).ents)
     have hl120 := (node_iff.1 hnd).l2
     clear hh hnd
     by_cases hln : a.ivs.length = a.nd.ents.length
     · have i3 : ((a.ivs.length : Int) != (a.nd.ents.length : Int)) = false := by rw [hln]; simp
       rw [decide_eq_true hln] at HA
       have Hle := Lib.hid hln.symm
       have hl2 : a.ivs.length ≤ 120 := by omega
       clear hln
       go_upto_region 3 with (first
         | ((with_reducible (show wpList _ _ _ (⟨some 12, _, _, _, _, _⟩ :: _) _ _)); refine wpList_ds (o := ⟨some 12, _, _, _, _, _⟩) rfl (.tmp 2) rfl _ rfl d hd0 ?_)
         | (go_at_call 29; refine (HD.out _).mono ?_; rintro e w1 ⟨rfl, he1⟩; have hd1 := hd0.ext he1; have ha1 := ha0.ext he1)
         | ((with_reducible (show wpList _ _ _ (⟨some 16, _, _, _, _, _⟩ :: _) _ _)); refine wpList_ds (o := ⟨some 16, _, _, _, _, _⟩) rfl (.tmp 2) rfl _ rfl d hd1 ?_)
         | ((with_reducible (show wpList _ _ _ (⟨some 17, _, _, _, _, _⟩ :: _) _ _)); refine wpList_row (o := ⟨some 17, _, _, _, _, _⟩) rfl 29 (.tmp 3) rfl _ rfl _ _ _ ha1 arDesc rfl arSize ?_)
         | (go_at_call 32; refine (HS.out _ (he0.trans he1)).mono ?_; rintro e w2 ⟨rfl, he2⟩; obtain ⟨f0, f1, f2, f3, f4, lf⟩ := (ha1.ext he2).cells))
       have Hd2 := Lib.hid (hd1.ext he2)
       have Ha2 := Lib.hid (ha1.ext he2)
       have Hx2 := Lib.hid ((he0.trans he1).trans he2)
       have Hv2 := Lib.hid (Hv.out.ext Hx2.out)
       have HAi : Hid (areaB d a = ivsB d (decide (1 < a.ivs.length)) [] a.ivs a.nd.ents) := Lib.hid (by rw [HA.out]; simp)
       clear hd0 ha0 hd1 ha1 he0 he1 he2 HA HS HD i3
       go_upto_region 5 with (fail)
       clear f0 f1 f2 f3 f4 lf
       go_loopw [34, 5] (fun i lo wr => ∃ k : Nat, k ≤ a.ivs.length ∧ i = .int .i64 k ∧ lo = .string ⟨(lowAt a.nd.ents k).toArray⟩ ∧ areaB d a = ivsB d (decide (1 < a.ivs.length)) (lowAt a.nd.ents k) (a.ivs.drop k) (a.nd.ents.drop k) ∧ Ext w2 wr) (fun i _ _ => a.ivs.length - (intOf i).toNat)
       case atStart => exact ⟨0, Nat.zero_le _, rfl, rfl, HAi.out, Ext.refl _⟩
       case round =>
         obtain ⟨k, hk, rfl, rfl, hiv, hex⟩ := hrel
         have Hiv := Lib.hid hiv
         have Hex := Lib.hid hex
         have Har := Lib.hid (Ha2.out.ext hex)
         obtain ⟨e0, e1, e2, e3, e4, la⟩ := Har.out.cells
         have hdr := Hd2.out.ext hex
         clear hiv
         by_cases hlt : k < a.ivs.length
         · have hltI : (k : Int) < a.ivs.length := by omega
           have hkEn : k < a.nd.ents.length := by have := Hle.out; omega
           obtain ⟨ib, io, iv, rfl, hib, hcell, qi, ci, rfl, hrow, hr1, hr2, hr3⟩ := (Hv2.out.ivs.ext hex).at k hlt
           obtain ⟨gb, go, rfl, hgb, hcc⟩ := (Hv2.out.ents.ext hex).at k hkEn
           obtain ⟨hck, _⟩ := hcc k hkEn
           have hkE : (k : Int) < a.nd.ents.length := by omega
           have HSt := Lib.hid (ivs_dropB (d := d) (many := decide (1 < a.ivs.length)) (low := lowAt a.nd.ents k) hlt hkEn)
           have HEm := Lib.hid (HLast.out k hkEn)
           have HLow := Lib.hid (lowAt_succ a.nd.ents k)
           have HL0 : Hid (k = 0 → lowAt a.nd.ents k = []) := Lib.hid (fun h => by rw [h]; rfl)
           have e7 : wr.cell? ⟨w.heap.size, 7, none⟩ = some (.int .i64 d.interval) := Blk.val hdr 7 _ rfl
           have ld := Blk.lt hdr
           have hsm := H3.out k
           have HFt : Hid (∀ W, Ext wr W → Calls Tryz.prog 38 #[.int .i64 d.interval, .slice qi (a.ivs.getD k []).length ci] W fun e w' => e = .returned (.bool (fitsB d.interval (a.ivs.getD k []))) ∧ Ext W w') := Lib.hid (fun W (e : Ext wr W) => Fits_any qi ci _ (a.ivs.getD k []) d.interval W (hrow.ext e) rfl hr1 hr2 hsm)
           have hLl : (a.ivs.getD k []).length ≤ 1000000 := hsm.1
           have HLs : Hid ((a.ivs.getD k []).isEmpty = decide ((a.ivs.getD k []).length = 0)) := Lib.hid (by cases a.ivs.getD k [] <;> rfl)
           clear hcc hr3 hex hsm hkEn
           generalize a.ivs.getD k [] = L at *
           generalize (entAt a.nd.ents k).1 = bel at *
           generalize lowAt a.nd.ents k = low at *
           by_cases hL0 : L.length = 0
           · have i1 : ((L.length : Int) == 0) = true := by rw [hL0]; rfl
             have HLe : Hid (L.isEmpty = true) := Lib.hid (by rw [HLs.out]; simp [hL0])
             have HLn : Hid (L = []) := Lib.hid (List.eq_nil_of_length_eq_zero hL0)
             by_cases hmany : 1 < a.ivs.length
             · have i2 : decide (1 < (a.ivs.length : Int)) = true := decide_eq_true (by omega)
               have hF : Hid (areaB d a = false) := Lib.hid (by rw [Hiv.out, HSt.out, HLe.out, decide_eq_true hmany]; simp)
               clear hL0 hmany
               go_wp2
               go_ret
               exact ⟨by rw [hF.out]; rfl, Hx2.out.trans Hex.out⟩
             · have i2 : decide (1 < (a.ivs.length : Int)) = false := decide_eq_false (by omega)
               cases hf : fitsB d.interval L
               · rw [hf] at HFt
                 have hF : Hid (areaB d a = false) := Lib.hid (by rw [Hiv.out, HSt.out, hf]; simp)
                 clear hL0 hmany hf
                 go_wp2_with (go_at_call 38; refine (HFt.out wr (Ext.refl wr)).mono ?_; rintro e w4 ⟨rfl, he4⟩)
                 go_ret
                 exact ⟨by rw [hF.out]; rfl, (Hx2.out.trans Hex.out).trans he4⟩
               · rw [hf] at HFt
                 have hN : Hid (areaB d a = ivsB d (decide (1 < a.ivs.length)) bel (a.ivs.drop (k + 1)) (a.nd.ents.drop (k + 1))) := Lib.hid (by rw [Hiv.out, HSt.out, hf, HLe.out, decide_eq_false hmany, HLn.out]; simp [recsB])
                 clear hmany hf hL0
                 go_upto_region 10 with (go_at_call 38; refine (HFt.out wr (Ext.refl wr)).mono ?_; rintro e w4 ⟨rfl, he4⟩)
                 have Hex4 := Lib.hid (Hex.out.trans he4)
                 have Ha4 := Lib.hid (Har.out.ext he4)
                 have hg4 := Nat.lt_of_lt_of_le hgb he4.size
                 have hck4 := (he4.cell gb _ hgb).trans hck
                 obtain ⟨x0, x1, x2, x3, x4, lx⟩ := Ha4.out.cells
                 clear e0 e1 e2 e3 e4 la e7 ld hcell hck hrow hdr he4 i1 i2
                 have hLn := HLn.out
                 subst hLn
                 clear HLs HLe HLn HFt
                 go_upto_region 11 with (fail)
                 go_loopw [64] (fun i wj => i = .int .i64 0 ∧ wj = w4) (fun _ _ => 0)
                 case atStart => exact ⟨rfl, rfl⟩
                 case round =>
                   obtain ⟨rfl, rfl⟩ := hrel
                   go_wp2_with fail
                   go_roundw
                   case rel => exact ⟨k + 1, by omega, by go_num, by rw [HLow.out], by rw [HLow.out]; exact hN.out, Hex4.out⟩
                   case measure => simp [intOf]; omega
           · have i1 : ((L.length : Int) == 0) = false := beq_eq_false_iff_ne.2 (by omega)
             have HLe : Hid (L.isEmpty = false) := Lib.hid (by rw [HLs.out]; simp [hL0])
             cases hf : fitsB d.interval L
             · rw [hf] at HFt
               have hF : Hid (areaB d a = false) := Lib.hid (by rw [Hiv.out, HSt.out, hf]; simp)
               clear hL0 hf
               go_wp2_with (go_at_call 38; refine (HFt.out wr (Ext.refl wr)).mono ?_; rintro e w4 ⟨rfl, he4⟩)
               go_ret
               exact ⟨by rw [hF.out]; rfl, (Hx2.out.trans Hex.out).trans he4⟩
             · rw [hf] at HFt
               have hN : Hid (areaB d a = (recsB d low bel none L && ivsB d (decide (1 < a.ivs.length)) bel (a.ivs.drop (k + 1)) (a.nd.ents.drop (k + 1)))) := Lib.hid (by rw [Hiv.out, HSt.out, hf, HLe.out]; simp)
               clear hf hL0
               go_upto_region 10 with (go_at_call 38; refine (HFt.out wr (Ext.refl wr)).mono ?_; rintro e w4 ⟨rfl, he4⟩)
               have Hex4 := Lib.hid (Hex.out.trans he4)
               have Ha4 := Lib.hid (Har.out.ext he4)
               have Hd4 := Lib.hid (hdr.ext he4)
               have Hr4 := Lib.hid (hrow.ext he4)
               have hg4 := Nat.lt_of_lt_of_le hgb he4.size
               have hck4 := (he4.cell gb _ hgb).trans hck
               clear e0 e1 e2 e3 e4 la e7 ld hcell hck hrow hdr he4 i1
               go_upto_region 11 with (fail)
               go_loopw [64] (fun i wr => ∃ j : Nat, j ≤ L.length ∧ i = .int .i64 j ∧ recsB d low bel none L = recsB d low bel (prevK d L j) (L.drop j) ∧ (0 < j → recB d (L.getD (j - 1) []) = true) ∧ Ext w4 wr) (fun i _ => L.length - (intOf i).toNat)
               case atStart => exact ⟨0, Nat.zero_le _, rfl, rfl, fun h => absurd h (Nat.lt_irrefl 0), Ext.refl _⟩
               case round =>
                 obtain ⟨j, hj, rfl, hrc, hpr, hxj⟩ := hrel
                 have Hrc := Lib.hid hrc
                 have Hpr := Lib.hid hpr
                 have Hxj := Lib.hid hxj
                 clear hrc hpr
                 by_cases hlj : j < L.length
                 · have hljI : (j : Int) < L.length := by omega
                   obtain ⟨rb, ro, rfl, hrb, hcl⟩ := (Hr4.out.ext hxj).at j hlj
                   have hcj := hcl j hlj
                   have HCy := Lib.hid (fun (h : 0 < j) => hcl (j - 1) (by omega))
                   have HS := Lib.hid (recs_drop (d := d) (low := low) (below := bel) hlj)
                   have HPn : Hid (0 < j + 1 → recB d (L.getD (j + 1 - 1) []) = recB d (L.getD j [])) := Lib.hid (fun _ => rfl)
                   have HPk : Hid (prevK d L j = if j = 0 then none else some (keyD d (L.getD (j - 1) []))) := Lib.hid rfl
                   have HIR := Lib.hid (fun W => allowedA_any d (L.getD j []) Hkd.out W)
                   have HKx := Lib.hid (fun W h => keyOf_any d (L.getD j []) Hkd.out h W)
                   have hdj := Hd4.out.ext hxj
                   have hrbl := hrb
                   generalize L.getD j [] = x at *
                   generalize L.getD (j - 1) [] = y at *
                   clear hcl
                   cases hrx : recB d x
                   · rw [hrx] at HIR
                     have hF : Hid (areaB d a = false) := Lib.hid (by rw [hN.out, Hrc.out, HS.out, hrx]; simp)
                     clear hrx
                     go_wp2_with (first
                       | ((with_reducible (show wpList _ _ _ (⟨some 69, _, _, _, _, _⟩ :: _) _ _)); refine wpList_ds (o := ⟨some 69, _, _, _, _, _⟩) rfl (.tmp 2) rfl _ rfl d hdj ?_)
                       | (go_at_call 39; refine (HIR.out _).mono ?_; rintro e w6 ⟨rfl, he6⟩))
                     go_ret
                     exact ⟨by rw [hF.out]; rfl, ((Hx2.out.trans Hex4.out).trans Hxj.out).trans he6⟩
                   · rw [hrx] at HIR
                     have HK := Lib.hid (fun W => HKx.out W hrx)
                     have HSx : Hid (areaB d a = ((!bl (keyD d x) low && (bel.isEmpty || bl (keyD d x) bel) && aboveB (prevK d L j) (keyD d x) && recsB d low bel (prevK d L (j + 1)) (L.drop (j + 1))) && ivsB d (decide (1 < a.ivs.length)) bel (a.ivs.drop (k + 1)) (a.nd.ents.drop (k + 1)))) := Lib.hid (by rw [hN.out, Hrc.out, HS.out, hrx]; simp only [Bool.true_and])
                     have HRx : Hid (recsB d low bel none L = (!bl (keyD d x) low && (bel.isEmpty || bl (keyD d x) bel) && aboveB (prevK d L j) (keyD d x) && recsB d low bel (prevK d L (j + 1)) (L.drop (j + 1)))) := Lib.hid (by rw [Hrc.out, HS.out, hrx]; simp only [Bool.true_and])
                     have HPx : Hid (0 < j + 1 → recB d (L.getD (j + 1 - 1) []) = true) := Lib.hid (fun h => by rw [HPn.out h]; exact hrx)
                     clear hrx
                     generalize hkx : keyD d x = kx at *
                     clear hkx
                     go_upto_region 16 with (first
                       | ((with_reducible (show wpList _ _ _ (⟨some 69, _, _, _, _, _⟩ :: _) _ _)); refine wpList_ds (o := ⟨some 69, _, _, _, _, _⟩) rfl (.tmp 2) rfl _ rfl d hdj ?_)
                       | (go_at_call 39; refine (HIR.out _).mono ?_; rintro e w6 ⟨rfl, he6⟩; have hd6 := hdj.ext he6)
                       | ((with_reducible (show wpList _ _ _ (⟨some 73, _, _, _, _, _⟩ :: _) _ _)); refine wpList_ds (o := ⟨some 73, _, _, _, _, _⟩) rfl (.tmp 2) rfl _ rfl d hd6 ?_)
                       | (go_at_call 40; refine (HK.out _).mono ?_; rintro e w7 ⟨rfl, he7⟩))
                     have HX7 := Lib.hid (Hxj.out.trans (he6.trans he7))
                     have Hd7 := Lib.hid (hd6.ext he7)
                     have hrb7 := Nat.lt_of_lt_of_le hrb (he6.trans he7).size
                     have HCy7 := Lib.hid (fun (h : 0 < j) => ((he6.trans he7).cell rb _ hrb).trans (HCy.out h))
                     clear hd6 hdj hcj hrb hrbl HCy he6 he7 HK HIR hxj
                     cases hb : bl kx low
                     · have u1 : Go.Op.bytesLess kx low = false := hb
                       have hlo : Hid (bl kx low = false) := Lib.hid hb
                       clear hb
                       cases hE : bel.isEmpty
                       · have u2 : (bel != []) = true := by cases bel with
                           | nil => cases hE
                           | cons => rfl
                         have u4 : (bel == []) = false := by cases bel with
                           | nil => cases hE
                           | cons => rfl
                         clear hE
                         cases hb : bl kx bel
                         · have u3 : Go.Op.bytesLess kx bel = false := hb
                           have hF : Hid (areaB d a = false) := Lib.hid (by
                             have h9 : bel.isEmpty = false := by cases bel with
                               | nil => cases u4
                               | cons => rfl
                             rw [HSx.out, hb, h9]; simp)
                           clear hb
                           refine wp_region_mk 200 (Ext.refl w7) (by kernel_rfl) (by kernel_rfl) (by kernel_rfl) ?_
                           simp only [List.take_succ_cons, List.take_zero, List.take_nil, List.drop_succ_cons, List.drop_zero, List.drop_nil, List.map_cons, List.map_nil]
                           repeat (first
                             | (refine wpML_skipU rfl rfl rfl ?_
                                simp only [setL, List.set_cons_succ, List.set_cons_zero])
                             | (refine wpML_detg (o := ⟨some 92, _, _, _, _, _⟩) (x := .agg #[.int .i64 d.id, .int .i64 d.org, .int .i64 d.format, .int .i64 d.length, .int .i64 d.block, .int .i64 d.keyAt, .int .i64 d.keyLength, .int .i64 d.interval, .int .i64 d.area, .int .i64 d.freeInterval, .int .i64 d.freeArea, .int .i64 d.base, .int .i64 d.altAt, .int .i64 d.altLength, .bool d.unique, .int .i64 d.cls, .string ⟨d.volume.toArray⟩, .string ⟨d.owner.toArray⟩, .int .i64 d.created, .int .i64 d.expires, .bool d.archived]) rfl rfl rfl rfl ?_ ?_
                                · intro a w' he hr K hK
                                  simp [Reads, Oper.looksAt, Op.operands, factAt, Is] at hr
                                  exact wp_load_row 23 (.tmp 2) rfl (w.heap.size) (by go_simp) _ _ _ _ (he.blk _ _ Hd7.out) dsDesc rfl dsSize (hK _ (Ext.refl _))
                                simp only [setL, List.set_cons_succ, List.set_cons_zero])
                             | (refine wpML_skip rfl rfl rfl rfl ?_
                                simp only [setL, List.set_cons_succ, List.set_cons_zero])
                             | (apply wpML_detg rfl rfl rfl rfl
                                · intro a w' he hr K hK
                                  simp [Reads, Oper.looksAt, Op.operands, Call.operands, factAt, Is] at hr
                                  have hx := he.cell
                                  go_simp
                                  try go_bits
                                  try (rw [if_neg (by omega)]; go_simp)
                                  first
                                    | exact hK _ (Ext.refl _)
                                    | (go_at_call 40; refine (HK2.out _).mono ?_; rintro e w'' ⟨rfl, he''⟩; exact hK _ he'')
                                simp only [setL, List.set_cons_succ, List.set_cons_zero])
                             | (refine wpML_move _ _ rfl (by first | exact .inl rfl | exact .inr rfl) rfl (by first | exact Is.stable _ | exact AppF.stable _ | exact WrF.stable _ | exact PtrF.stable _ _ | exact IfcF.stable (Fresh.stable _ _ _) _ | exact PairF.stable (RowF.stable _ _ _ _) _ | exact RowF.stable _ _ _ _ | exact Fresh.stable _ _ _) ?_
                                simp only [setL, List.set_cons_succ, List.set_cons_zero, List.getD_cons_succ, List.getD_cons_zero])
                             | (refine wpML_moveC _ rfl (by first | exact .inl rfl | exact .inr rfl) ?_
                                simp only [setL, List.set_cons_succ, List.set_cons_zero])
                             | (apply wpML_det rfl
                                · intro a w' he hr K hK
                                  simp [Reads, Oper.looksAt, Op.operands, Call.operands, factAt, Is] at hr
                                  have hx := he.cell
                                  go_simp
                                  try go_bits
                                  try (rw [if_neg (by omega)]; go_simp)
                                  first
                                    | exact hK _ (Ext.refl _)
                                    | (go_at_call 40; refine (HK2.out _).mono ?_; rintro e w'' ⟨rfl, he''⟩; exact hK _ he'')
                                simp only [setL, List.set_cons_succ, List.set_cons_zero])
                             | (apply wpML_det rfl
                                · intro a w' he hr K hK
                                  simp [Reads, Oper.looksAt, Op.operands, Call.operands, factAt, Fresh] at hr
                                  obtain ⟨b, hr1, hr2⟩ := hr
                                  go_simp
                                  exact hK _ (Ext.refl _)
                                simp only [setL, List.set_cons_succ, List.set_cons_zero]))
                           intro w2 he2
                           repeat (first | with_reducible refine rest_is _ _ _ _ ?_ | (with_reducible refine rest_fact _ _ _ _ ?_; intro _ _) | with_reducible refine rest_end _ _ ?_)
                           simp only [List.reverse_cons, List.reverse_nil, List.nil_append, List.cons_append]
                           go_wp2_with fail
                           go_ret
                           exact ⟨by rw [hF.out]; rfl, ((Hx2.out.trans Hex4.out).trans HX7.out).trans he2⟩
                         · have u3 : Go.Op.bytesLess kx bel = true := hb
                           have hbe : Hid ((bel.isEmpty || bl kx bel) = true) := Lib.hid (by rw [hb]; simp)
                           clear hb
                           rcases Nat.eq_zero_or_pos j with hj0 | hj0
                           · have v1 : decide (0 < (j : Int)) = false := decide_eq_false (by omega)
                             have v1' : ¬ 0 < j := by omega
                             have hab : Hid (aboveB (prevK d L j) kx = true) := Lib.hid (by rw [HPk.out, if_pos hj0]; rfl)
                             clear hj0
                             have hq := HRx.out
                             rw [hlo.out, hbe.out, hab.out] at hq
                             simp only [Bool.not_false, Bool.true_and] at hq
                             have hRn := Lib.hid hq
                             clear hq
                             refine wp_region_mk 200 (Ext.refl w7) (by kernel_rfl) (by kernel_rfl) (by kernel_rfl) ?_
                             simp only [List.take_succ_cons, List.take_zero, List.take_nil, List.drop_succ_cons, List.drop_zero, List.drop_nil, List.map_cons, List.map_nil]
                             repeat (first
                               | (refine wpML_skipU rfl rfl rfl ?_
                                  simp only [setL, List.set_cons_succ, List.set_cons_zero])
                               | (refine wpML_detg (o := ⟨some 92, _, _, _, _, _⟩) (x := .agg #[.int .i64 d.id, .int .i64 d.org, .int .i64 d.format, .int .i64 d.length, .int .i64 d.block, .int .i64 d.keyAt, .int .i64 d.keyLength, .int .i64 d.interval, .int .i64 d.area, .int .i64 d.freeInterval, .int .i64 d.freeArea, .int .i64 d.base, .int .i64 d.altAt, .int .i64 d.altLength, .bool d.unique, .int .i64 d.cls, .string ⟨d.volume.toArray⟩, .string ⟨d.owner.toArray⟩, .int .i64 d.created, .int .i64 d.expires, .bool d.archived]) rfl rfl rfl rfl ?_ ?_
                                  · intro a w' he hr K hK
                                    simp [Reads, Oper.looksAt, Op.operands, factAt, Is] at hr
                                    exact wp_load_row 23 (.tmp 2) rfl (w.heap.size) (by go_simp) _ _ _ _ (he.blk _ _ Hd7.out) dsDesc rfl dsSize (hK _ (Ext.refl _))
                                  simp only [setL, List.set_cons_succ, List.set_cons_zero])
                               | (refine wpML_skip rfl rfl rfl rfl ?_
                                  simp only [setL, List.set_cons_succ, List.set_cons_zero])
                               | (apply wpML_detg rfl rfl rfl rfl
                                  · intro a w' he hr K hK
                                    simp [Reads, Oper.looksAt, Op.operands, Call.operands, factAt, Is] at hr
                                    have hx := he.cell
                                    go_simp
                                    try go_bits
                                    try (rw [if_neg (by omega)]; go_simp)
                                    first
                                      | exact hK _ (Ext.refl _)
                                      | (go_at_call 40; refine (HK2.out _).mono ?_; rintro e w'' ⟨rfl, he''⟩; exact hK _ he'')
                                  simp only [setL, List.set_cons_succ, List.set_cons_zero])
                               | (refine wpML_move _ _ rfl (by first | exact .inl rfl | exact .inr rfl) rfl (by first | exact Is.stable _ | exact AppF.stable _ | exact WrF.stable _ | exact PtrF.stable _ _ | exact IfcF.stable (Fresh.stable _ _ _) _ | exact PairF.stable (RowF.stable _ _ _ _) _ | exact RowF.stable _ _ _ _ | exact Fresh.stable _ _ _) ?_
                                  simp only [setL, List.set_cons_succ, List.set_cons_zero, List.getD_cons_succ, List.getD_cons_zero])
                               | (refine wpML_moveC _ rfl (by first | exact .inl rfl | exact .inr rfl) ?_
                                  simp only [setL, List.set_cons_succ, List.set_cons_zero])
                               | (apply wpML_det rfl
                                  · intro a w' he hr K hK
                                    simp [Reads, Oper.looksAt, Op.operands, Call.operands, factAt, Is] at hr
                                    have hx := he.cell
                                    go_simp
                                    try go_bits
                                    try (rw [if_neg (by omega)]; go_simp)
                                    first
                                      | exact hK _ (Ext.refl _)
                                      | (go_at_call 40; refine (HK2.out _).mono ?_; rintro e w'' ⟨rfl, he''⟩; exact hK _ he'')
                                  simp only [setL, List.set_cons_succ, List.set_cons_zero])
                               | (apply wpML_det rfl
                                  · intro a w' he hr K hK
                                    simp [Reads, Oper.looksAt, Op.operands, Call.operands, factAt, Fresh] at hr
                                    obtain ⟨b, hr1, hr2⟩ := hr
                                    go_simp
                                    exact hK _ (Ext.refl _)
                                  simp only [setL, List.set_cons_succ, List.set_cons_zero]))
                             intro w2 he2
                             repeat (first | with_reducible refine rest_is _ _ _ _ ?_ | (with_reducible refine rest_fact _ _ _ _ ?_; intro _ _) | with_reducible refine rest_end _ _ ?_)
                             simp only [List.reverse_cons, List.reverse_nil, List.nil_append, List.cons_append]
                             go_wp2_with fail
                             go_roundw
                             case rel => exact ⟨j + 1, by omega, by go_num, hRn.out, HPx.out, HX7.out.trans he2⟩
                             case measure => simp [intOf]; omega
                           · have v1 : decide (0 < (j : Int)) = true := decide_eq_true (by omega)
                             have v1' : 0 < j := hj0
                             have v3 : (j : Int) - 1 = ((j - 1 : Nat) : Int) := by omega
                             have v4 : ((j - 1 : Nat) : Int) < (L.length : Int) := by omega
                             have hcy := HCy7.out hj0
                             have hry := Hpr.out hj0
                             have HK2 := Lib.hid (fun W => keyOf_any d y Hkd.out hry W)
                             have HPk2 : Hid (prevK d L j = some (keyD d y)) := Lib.hid (by rw [HPk.out, if_neg (by omega)])
                             generalize keyD d y = ky at *
                             clear hj0 hry
                             cases hb : bl ky kx
                             · have v2 : Go.Op.bytesLess ky kx = false := hb
                               have hF : Hid (areaB d a = false) := Lib.hid (by rw [HSx.out, HPk2.out]; unfold aboveB; simp only [hb]; simp)
                               clear hb
                               refine wp_region_mk 200 (Ext.refl w7) (by kernel_rfl) (by kernel_rfl) (by kernel_rfl) ?_
                               simp only [List.take_succ_cons, List.take_zero, List.take_nil, List.drop_succ_cons, List.drop_zero, List.drop_nil, List.map_cons, List.map_nil]
                               repeat (first
                                 | (refine wpML_skipU rfl rfl rfl ?_
                                    simp only [setL, List.set_cons_succ, List.set_cons_zero])
                                 | (refine wpML_detg (o := ⟨some 92, _, _, _, _, _⟩) (x := .agg #[.int .i64 d.id, .int .i64 d.org, .int .i64 d.format, .int .i64 d.length, .int .i64 d.block, .int .i64 d.keyAt, .int .i64 d.keyLength, .int .i64 d.interval, .int .i64 d.area, .int .i64 d.freeInterval, .int .i64 d.freeArea, .int .i64 d.base, .int .i64 d.altAt, .int .i64 d.altLength, .bool d.unique, .int .i64 d.cls, .string ⟨d.volume.toArray⟩, .string ⟨d.owner.toArray⟩, .int .i64 d.created, .int .i64 d.expires, .bool d.archived]) rfl rfl rfl rfl ?_ ?_
                                    · intro a w' he hr K hK
                                      simp [Reads, Oper.looksAt, Op.operands, factAt, Is] at hr
                                      exact wp_load_row 23 (.tmp 2) rfl (w.heap.size) (by go_simp) _ _ _ _ (he.blk _ _ Hd7.out) dsDesc rfl dsSize (hK _ (Ext.refl _))
                                    simp only [setL, List.set_cons_succ, List.set_cons_zero])
                                 | (refine wpML_skip rfl rfl rfl rfl ?_
                                    simp only [setL, List.set_cons_succ, List.set_cons_zero])
                                 | (apply wpML_detg rfl rfl rfl rfl
                                    · intro a w' he hr K hK
                                      simp [Reads, Oper.looksAt, Op.operands, Call.operands, factAt, Is] at hr
                                      have hx := he.cell
                                      go_simp
                                      try go_bits
                                      try (rw [if_neg (by omega)]; go_simp)
                                      first
                                        | exact hK _ (Ext.refl _)
                                        | (go_at_call 40; refine (HK2.out _).mono ?_; rintro e w'' ⟨rfl, he''⟩; exact hK _ he'')
                                    simp only [setL, List.set_cons_succ, List.set_cons_zero])
                                 | (refine wpML_move _ _ rfl (by first | exact .inl rfl | exact .inr rfl) rfl (by first | exact Is.stable _ | exact AppF.stable _ | exact WrF.stable _ | exact PtrF.stable _ _ | exact IfcF.stable (Fresh.stable _ _ _) _ | exact PairF.stable (RowF.stable _ _ _ _) _ | exact RowF.stable _ _ _ _ | exact Fresh.stable _ _ _) ?_
                                    simp only [setL, List.set_cons_succ, List.set_cons_zero, List.getD_cons_succ, List.getD_cons_zero])
                                 | (refine wpML_moveC _ rfl (by first | exact .inl rfl | exact .inr rfl) ?_
                                    simp only [setL, List.set_cons_succ, List.set_cons_zero])
                                 | (apply wpML_det rfl
                                    · intro a w' he hr K hK
                                      simp [Reads, Oper.looksAt, Op.operands, Call.operands, factAt, Is] at hr
                                      have hx := he.cell
                                      go_simp
                                      try go_bits
                                      try (rw [if_neg (by omega)]; go_simp)
                                      first
                                        | exact hK _ (Ext.refl _)
                                        | (go_at_call 40; refine (HK2.out _).mono ?_; rintro e w'' ⟨rfl, he''⟩; exact hK _ he'')
                                    simp only [setL, List.set_cons_succ, List.set_cons_zero])
                                 | (apply wpML_det rfl
                                    · intro a w' he hr K hK
                                      simp [Reads, Oper.looksAt, Op.operands, Call.operands, factAt, Fresh] at hr
                                      obtain ⟨b, hr1, hr2⟩ := hr
                                      go_simp
                                      exact hK _ (Ext.refl _)
                                    simp only [setL, List.set_cons_succ, List.set_cons_zero]))
                               intro w2 he2
                               repeat (first | with_reducible refine rest_is _ _ _ _ ?_ | (with_reducible refine rest_fact _ _ _ _ ?_; intro _ _) | with_reducible refine rest_end _ _ ?_)
                               simp only [List.reverse_cons, List.reverse_nil, List.nil_append, List.cons_append]
                               go_wp2_with fail
                               go_ret
                               exact ⟨by rw [hF.out]; rfl, ((Hx2.out.trans Hex4.out).trans HX7.out).trans he2⟩
                             · have v2 : Go.Op.bytesLess ky kx = true := hb
                               have hab : Hid (aboveB (prevK d L j) kx = true) := Lib.hid (by rw [HPk2.out]; exact hb)
                               clear hb
                               have hq := HRx.out
                               rw [hlo.out, hbe.out, hab.out] at hq
                               simp only [Bool.not_false, Bool.true_and] at hq
                               have hRn := Lib.hid hq
                               clear hq
                               refine wp_region_mk 200 (Ext.refl w7) (by kernel_rfl) (by kernel_rfl) (by kernel_rfl) ?_
                               simp only [List.take_succ_cons, List.take_zero, List.take_nil, List.drop_succ_cons, List.drop_zero, List.drop_nil, List.map_cons, List.map_nil]
                               repeat (first
                                 | (refine wpML_skipU rfl rfl rfl ?_
                                    simp only [setL, List.set_cons_succ, List.set_cons_zero])
                                 | (refine wpML_detg (o := ⟨some 92, _, _, _, _, _⟩) (x := .agg #[.int .i64 d.id, .int .i64 d.org, .int .i64 d.format, .int .i64 d.length, .int .i64 d.block, .int .i64 d.keyAt, .int .i64 d.keyLength, .int .i64 d.interval, .int .i64 d.area, .int .i64 d.freeInterval, .int .i64 d.freeArea, .int .i64 d.base, .int .i64 d.altAt, .int .i64 d.altLength, .bool d.unique, .int .i64 d.cls, .string ⟨d.volume.toArray⟩, .string ⟨d.owner.toArray⟩, .int .i64 d.created, .int .i64 d.expires, .bool d.archived]) rfl rfl rfl rfl ?_ ?_
                                    · intro a w' he hr K hK
                                      simp [Reads, Oper.looksAt, Op.operands, factAt, Is] at hr
                                      exact wp_load_row 23 (.tmp 2) rfl (w.heap.size) (by go_simp) _ _ _ _ (he.blk _ _ Hd7.out) dsDesc rfl dsSize (hK _ (Ext.refl _))
                                    simp only [setL, List.set_cons_succ, List.set_cons_zero])
                                 | (refine wpML_skip rfl rfl rfl rfl ?_
                                    simp only [setL, List.set_cons_succ, List.set_cons_zero])
                                 | (apply wpML_detg rfl rfl rfl rfl
                                    · intro a w' he hr K hK
                                      simp [Reads, Oper.looksAt, Op.operands, Call.operands, factAt, Is] at hr
                                      have hx := he.cell
                                      go_simp
                                      try go_bits
                                      try (rw [if_neg (by omega)]; go_simp)
                                      first
                                        | exact hK _ (Ext.refl _)
                                        | (go_at_call 40; refine (HK2.out _).mono ?_; rintro e w'' ⟨rfl, he''⟩; exact hK _ he'')
                                    simp only [setL, List.set_cons_succ, List.set_cons_zero])
                                 | (refine wpML_move _ _ rfl (by first | exact .inl rfl | exact .inr rfl) rfl (by first | exact Is.stable _ | exact AppF.stable _ | exact WrF.stable _ | exact PtrF.stable _ _ | exact IfcF.stable (Fresh.stable _ _ _) _ | exact PairF.stable (RowF.stable _ _ _ _) _ | exact RowF.stable _ _ _ _ | exact Fresh.stable _ _ _) ?_
                                    simp only [setL, List.set_cons_succ, List.set_cons_zero, List.getD_cons_succ, List.getD_cons_zero])
                                 | (refine wpML_moveC _ rfl (by first | exact .inl rfl | exact .inr rfl) ?_
                                    simp only [setL, List.set_cons_succ, List.set_cons_zero])
                                 | (apply wpML_det rfl
                                    · intro a w' he hr K hK
                                      simp [Reads, Oper.looksAt, Op.operands, Call.operands, factAt, Is] at hr
                                      have hx := he.cell
                                      go_simp
                                      try go_bits
                                      try (rw [if_neg (by omega)]; go_simp)
                                      first
                                        | exact hK _ (Ext.refl _)
                                        | (go_at_call 40; refine (HK2.out _).mono ?_; rintro e w'' ⟨rfl, he''⟩; exact hK _ he'')
                                    simp only [setL, List.set_cons_succ, List.set_cons_zero])
                                 | (apply wpML_det rfl
                                    · intro a w' he hr K hK
                                      simp [Reads, Oper.looksAt, Op.operands, Call.operands, factAt, Fresh] at hr
                                      obtain ⟨b, hr1, hr2⟩ := hr
                                      go_simp
                                      exact hK _ (Ext.refl _)
                                    simp only [setL, List.set_cons_succ, List.set_cons_zero]))
                               intro w2 he2
                               repeat (first | with_reducible refine rest_is _ _ _ _ ?_ | (with_reducible refine rest_fact _ _ _ _ ?_; intro _ _) | with_reducible refine rest_end _ _ ?_)
                               simp only [List.reverse_cons, List.reverse_nil, List.nil_append, List.cons_append]
                               go_wp2_with fail
                               go_roundw
                               case rel => exact ⟨j + 1, by omega, by go_num, hRn.out, HPx.out, HX7.out.trans he2⟩
                               case measure => simp [intOf]; omega
                       · have hbn : bel = [] := List.isEmpty_iff.1 hE
                         clear hE
                         subst hbn
                         have hbe : Hid ((List.isEmpty ([] : List UInt8) || bl kx []) = true) := Lib.hid rfl
                         rcases Nat.eq_zero_or_pos j with hj0 | hj0
                         · have v1 : decide (0 < (j : Int)) = false := decide_eq_false (by omega)
                           have v1' : ¬ 0 < j := by omega
                           have hab : Hid (aboveB (prevK d L j) kx = true) := Lib.hid (by rw [HPk.out, if_pos hj0]; rfl)
                           clear hj0
                           have hq := HRx.out
                           rw [hlo.out, hbe.out, hab.out] at hq
                           simp only [Bool.not_false, Bool.true_and] at hq
                           have hRn := Lib.hid hq
                           clear hq
                           refine wp_region_mk 200 (Ext.refl w7) (by kernel_rfl) (by kernel_rfl) (by kernel_rfl) ?_
                           simp only [List.take_succ_cons, List.take_zero, List.take_nil, List.drop_succ_cons, List.drop_zero, List.drop_nil, List.map_cons, List.map_nil]
                           repeat (first
                             | (refine wpML_skipU rfl rfl rfl ?_
                                simp only [setL, List.set_cons_succ, List.set_cons_zero])
                             | (refine wpML_detg (o := ⟨some 92, _, _, _, _, _⟩) (x := .agg #[.int .i64 d.id, .int .i64 d.org, .int .i64 d.format, .int .i64 d.length, .int .i64 d.block, .int .i64 d.keyAt, .int .i64 d.keyLength, .int .i64 d.interval, .int .i64 d.area, .int .i64 d.freeInterval, .int .i64 d.freeArea, .int .i64 d.base, .int .i64 d.altAt, .int .i64 d.altLength, .bool d.unique, .int .i64 d.cls, .string ⟨d.volume.toArray⟩, .string ⟨d.owner.toArray⟩, .int .i64 d.created, .int .i64 d.expires, .bool d.archived]) rfl rfl rfl rfl ?_ ?_
                                · intro a w' he hr K hK
                                  simp [Reads, Oper.looksAt, Op.operands, factAt, Is] at hr
                                  exact wp_load_row 23 (.tmp 2) rfl (w.heap.size) (by go_simp) _ _ _ _ (he.blk _ _ Hd7.out) dsDesc rfl dsSize (hK _ (Ext.refl _))
                                simp only [setL, List.set_cons_succ, List.set_cons_zero])
                             | (refine wpML_skip rfl rfl rfl rfl ?_
                                simp only [setL, List.set_cons_succ, List.set_cons_zero])
                             | (apply wpML_detg rfl rfl rfl rfl
                                · intro a w' he hr K hK
                                  simp [Reads, Oper.looksAt, Op.operands, Call.operands, factAt, Is] at hr
                                  have hx := he.cell
                                  go_simp
                                  try go_bits
                                  try (rw [if_neg (by omega)]; go_simp)
                                  first
                                    | exact hK _ (Ext.refl _)
                                    | (go_at_call 40; refine (HK2.out _).mono ?_; rintro e w'' ⟨rfl, he''⟩; exact hK _ he'')
                                simp only [setL, List.set_cons_succ, List.set_cons_zero])
                             | (refine wpML_move _ _ rfl (by first | exact .inl rfl | exact .inr rfl) rfl (by first | exact Is.stable _ | exact AppF.stable _ | exact WrF.stable _ | exact PtrF.stable _ _ | exact IfcF.stable (Fresh.stable _ _ _) _ | exact PairF.stable (RowF.stable _ _ _ _) _ | exact RowF.stable _ _ _ _ | exact Fresh.stable _ _ _) ?_
                                simp only [setL, List.set_cons_succ, List.set_cons_zero, List.getD_cons_succ, List.getD_cons_zero])
                             | (refine wpML_moveC _ rfl (by first | exact .inl rfl | exact .inr rfl) ?_
                                simp only [setL, List.set_cons_succ, List.set_cons_zero])
                             | (apply wpML_det rfl
                                · intro a w' he hr K hK
                                  simp [Reads, Oper.looksAt, Op.operands, Call.operands, factAt, Is] at hr
                                  have hx := he.cell
                                  go_simp
                                  try go_bits
                                  try (rw [if_neg (by omega)]; go_simp)
                                  first
                                    | exact hK _ (Ext.refl _)
                                    | (go_at_call 40; refine (HK2.out _).mono ?_; rintro e w'' ⟨rfl, he''⟩; exact hK _ he'')
                                simp only [setL, List.set_cons_succ, List.set_cons_zero])
                             | (apply wpML_det rfl
                                · intro a w' he hr K hK
                                  simp [Reads, Oper.looksAt, Op.operands, Call.operands, factAt, Fresh] at hr
                                  obtain ⟨b, hr1, hr2⟩ := hr
                                  go_simp
                                  exact hK _ (Ext.refl _)
                                simp only [setL, List.set_cons_succ, List.set_cons_zero]))
                           intro w2 he2
                           repeat (first | with_reducible refine rest_is _ _ _ _ ?_ | (with_reducible refine rest_fact _ _ _ _ ?_; intro _ _) | with_reducible refine rest_end _ _ ?_)
                           simp only [List.reverse_cons, List.reverse_nil, List.nil_append, List.cons_append]
                           go_wp2_with fail
                           go_roundw
                           case rel => exact ⟨j + 1, by omega, by go_num, hRn.out, HPx.out, HX7.out.trans he2⟩
                           case measure => simp [intOf]; omega
                         · have v1 : decide (0 < (j : Int)) = true := decide_eq_true (by omega)
                           have v1' : 0 < j := hj0
                           have v3 : (j : Int) - 1 = ((j - 1 : Nat) : Int) := by omega
                           have v4 : ((j - 1 : Nat) : Int) < (L.length : Int) := by omega
                           have hcy := HCy7.out hj0
                           have hry := Hpr.out hj0
                           have HK2 := Lib.hid (fun W => keyOf_any d y Hkd.out hry W)
                           have HPk2 : Hid (prevK d L j = some (keyD d y)) := Lib.hid (by rw [HPk.out, if_neg (by omega)])
                           generalize keyD d y = ky at *
                           clear hj0 hry
                           cases hb : bl ky kx
                           · have v2 : Go.Op.bytesLess ky kx = false := hb
                             have hF : Hid (areaB d a = false) := Lib.hid (by rw [HSx.out, HPk2.out]; unfold aboveB; simp only [hb]; simp)
                             clear hb
                             refine wp_region_mk 200 (Ext.refl w7) (by kernel_rfl) (by kernel_rfl) (by kernel_rfl) ?_
                             simp only [List.take_succ_cons, List.take_zero, List.take_nil, List.drop_succ_cons, List.drop_zero, List.drop_nil, List.map_cons, List.map_nil]
                             repeat (first
                               | (refine wpML_skipU rfl rfl rfl ?_
                                  simp only [setL, List.set_cons_succ, List.set_cons_zero])
                               | (refine wpML_detg (o := ⟨some 92, _, _, _, _, _⟩) (x := .agg #[.int .i64 d.id, .int .i64 d.org, .int .i64 d.format, .int .i64 d.length, .int .i64 d.block, .int .i64 d.keyAt, .int .i64 d.keyLength, .int .i64 d.interval, .int .i64 d.area, .int .i64 d.freeInterval, .int .i64 d.freeArea, .int .i64 d.base, .int .i64 d.altAt, .int .i64 d.altLength, .bool d.unique, .int .i64 d.cls, .string ⟨d.volume.toArray⟩, .string ⟨d.owner.toArray⟩, .int .i64 d.created, .int .i64 d.expires, .bool d.archived]) rfl rfl rfl rfl ?_ ?_
                                  · intro a w' he hr K hK
                                    simp [Reads, Oper.looksAt, Op.operands, factAt, Is] at hr
                                    exact wp_load_row 23 (.tmp 2) rfl (w.heap.size) (by go_simp) _ _ _ _ (he.blk _ _ Hd7.out) dsDesc rfl dsSize (hK _ (Ext.refl _))
                                  simp only [setL, List.set_cons_succ, List.set_cons_zero])
                               | (refine wpML_skip rfl rfl rfl rfl ?_
                                  simp only [setL, List.set_cons_succ, List.set_cons_zero])
                               | (apply wpML_detg rfl rfl rfl rfl
                                  · intro a w' he hr K hK
                                    simp [Reads, Oper.looksAt, Op.operands, Call.operands, factAt, Is] at hr
                                    have hx := he.cell
                                    go_simp
                                    try go_bits
                                    try (rw [if_neg (by omega)]; go_simp)
                                    first
                                      | exact hK _ (Ext.refl _)
                                      | (go_at_call 40; refine (HK2.out _).mono ?_; rintro e w'' ⟨rfl, he''⟩; exact hK _ he'')
                                  simp only [setL, List.set_cons_succ, List.set_cons_zero])
                               | (refine wpML_move _ _ rfl (by first | exact .inl rfl | exact .inr rfl) rfl (by first | exact Is.stable _ | exact AppF.stable _ | exact WrF.stable _ | exact PtrF.stable _ _ | exact IfcF.stable (Fresh.stable _ _ _) _ | exact PairF.stable (RowF.stable _ _ _ _) _ | exact RowF.stable _ _ _ _ | exact Fresh.stable _ _ _) ?_
                                  simp only [setL, List.set_cons_succ, List.set_cons_zero, List.getD_cons_succ, List.getD_cons_zero])
                               | (refine wpML_moveC _ rfl (by first | exact .inl rfl | exact .inr rfl) ?_
                                  simp only [setL, List.set_cons_succ, List.set_cons_zero])
                               | (apply wpML_det rfl
                                  · intro a w' he hr K hK
                                    simp [Reads, Oper.looksAt, Op.operands, Call.operands, factAt, Is] at hr
                                    have hx := he.cell
                                    go_simp
                                    try go_bits
                                    try (rw [if_neg (by omega)]; go_simp)
                                    first
                                      | exact hK _ (Ext.refl _)
                                      | (go_at_call 40; refine (HK2.out _).mono ?_; rintro e w'' ⟨rfl, he''⟩; exact hK _ he'')
                                  simp only [setL, List.set_cons_succ, List.set_cons_zero])
                               | (apply wpML_det rfl
                                  · intro a w' he hr K hK
                                    simp [Reads, Oper.looksAt, Op.operands, Call.operands, factAt, Fresh] at hr
                                    obtain ⟨b, hr1, hr2⟩ := hr
                                    go_simp
                                    exact hK _ (Ext.refl _)
                                  simp only [setL, List.set_cons_succ, List.set_cons_zero]))
                             intro w2 he2
                             repeat (first | with_reducible refine rest_is _ _ _ _ ?_ | (with_reducible refine rest_fact _ _ _ _ ?_; intro _ _) | with_reducible refine rest_end _ _ ?_)
                             simp only [List.reverse_cons, List.reverse_nil, List.nil_append, List.cons_append]
                             go_wp2_with fail
                             go_ret
                             exact ⟨by rw [hF.out]; rfl, ((Hx2.out.trans Hex4.out).trans HX7.out).trans he2⟩
                           · have v2 : Go.Op.bytesLess ky kx = true := hb
                             have hab : Hid (aboveB (prevK d L j) kx = true) := Lib.hid (by rw [HPk2.out]; exact hb)
                             clear hb
                             have hq := HRx.out
                             rw [hlo.out, hbe.out, hab.out] at hq
                             simp only [Bool.not_false, Bool.true_and] at hq
                             have hRn := Lib.hid hq
                             clear hq
                             refine wp_region_mk 200 (Ext.refl w7) (by kernel_rfl) (by kernel_rfl) (by kernel_rfl) ?_
                             simp only [List.take_succ_cons, List.take_zero, List.take_nil, List.drop_succ_cons, List.drop_zero, List.drop_nil, List.map_cons, List.map_nil]
                             repeat (first
                               | (refine wpML_skipU rfl rfl rfl ?_
                                  simp only [setL, List.set_cons_succ, List.set_cons_zero])
                               | (refine wpML_detg (o := ⟨some 92, _, _, _, _, _⟩) (x := .agg #[.int .i64 d.id, .int .i64 d.org, .int .i64 d.format, .int .i64 d.length, .int .i64 d.block, .int .i64 d.keyAt, .int .i64 d.keyLength, .int .i64 d.interval, .int .i64 d.area, .int .i64 d.freeInterval, .int .i64 d.freeArea, .int .i64 d.base, .int .i64 d.altAt, .int .i64 d.altLength, .bool d.unique, .int .i64 d.cls, .string ⟨d.volume.toArray⟩, .string ⟨d.owner.toArray⟩, .int .i64 d.created, .int .i64 d.expires, .bool d.archived]) rfl rfl rfl rfl ?_ ?_
                                  · intro a w' he hr K hK
                                    simp [Reads, Oper.looksAt, Op.operands, factAt, Is] at hr
                                    exact wp_load_row 23 (.tmp 2) rfl (w.heap.size) (by go_simp) _ _ _ _ (he.blk _ _ Hd7.out) dsDesc rfl dsSize (hK _ (Ext.refl _))
                                  simp only [setL, List.set_cons_succ, List.set_cons_zero])
                               | (refine wpML_skip rfl rfl rfl rfl ?_
                                  simp only [setL, List.set_cons_succ, List.set_cons_zero])
                               | (apply wpML_detg rfl rfl rfl rfl
                                  · intro a w' he hr K hK
                                    simp [Reads, Oper.looksAt, Op.operands, Call.operands, factAt, Is] at hr
                                    have hx := he.cell
                                    go_simp
                                    try go_bits
                                    try (rw [if_neg (by omega)]; go_simp)
                                    first
                                      | exact hK _ (Ext.refl _)
                                      | (go_at_call 40; refine (HK2.out _).mono ?_; rintro e w'' ⟨rfl, he''⟩; exact hK _ he'')
                                  simp only [setL, List.set_cons_succ, List.set_cons_zero])
                               | (refine wpML_move _ _ rfl (by first | exact .inl rfl | exact .inr rfl) rfl (by first | exact Is.stable _ | exact AppF.stable _ | exact WrF.stable _ | exact PtrF.stable _ _ | exact IfcF.stable (Fresh.stable _ _ _) _ | exact PairF.stable (RowF.stable _ _ _ _) _ | exact RowF.stable _ _ _ _ | exact Fresh.stable _ _ _) ?_
                                  simp only [setL, List.set_cons_succ, List.set_cons_zero, List.getD_cons_succ, List.getD_cons_zero])
                               | (refine wpML_moveC _ rfl (by first | exact .inl rfl | exact .inr rfl) ?_
                                  simp only [setL, List.set_cons_succ, List.set_cons_zero])
                               | (apply wpML_det rfl
                                  · intro a w' he hr K hK
                                    simp [Reads, Oper.looksAt, Op.operands, Call.operands, factAt, Is] at hr
                                    have hx := he.cell
                                    go_simp
                                    try go_bits
                                    try (rw [if_neg (by omega)]; go_simp)
                                    first
                                      | exact hK _ (Ext.refl _)
                                      | (go_at_call 40; refine (HK2.out _).mono ?_; rintro e w'' ⟨rfl, he''⟩; exact hK _ he'')
                                  simp only [setL, List.set_cons_succ, List.set_cons_zero])
                               | (apply wpML_det rfl
                                  · intro a w' he hr K hK
                                    simp [Reads, Oper.looksAt, Op.operands, Call.operands, factAt, Fresh] at hr
                                    obtain ⟨b, hr1, hr2⟩ := hr
                                    go_simp
                                    exact hK _ (Ext.refl _)
                                  simp only [setL, List.set_cons_succ, List.set_cons_zero]))
                             intro w2 he2
                             repeat (first | with_reducible refine rest_is _ _ _ _ ?_ | (with_reducible refine rest_fact _ _ _ _ ?_; intro _ _) | with_reducible refine rest_end _ _ ?_)
                             simp only [List.reverse_cons, List.reverse_nil, List.nil_append, List.cons_append]
                             go_wp2_with fail
                             go_roundw
                             case rel => exact ⟨j + 1, by omega, by go_num, hRn.out, HPx.out, HX7.out.trans he2⟩
                             case measure => simp [intOf]; omega
                     · have u1 : Go.Op.bytesLess kx low = true := hb
                       have hF : Hid (areaB d a = false) := Lib.hid (by rw [HSx.out, hb]; simp)
                       clear hb
                       refine wp_region_mk 200 (Ext.refl w7) (by kernel_rfl) (by kernel_rfl) (by kernel_rfl) ?_
                       simp only [List.take_succ_cons, List.take_zero, List.take_nil, List.drop_succ_cons, List.drop_zero, List.drop_nil, List.map_cons, List.map_nil]
                       repeat (first
                         | (refine wpML_skipU rfl rfl rfl ?_
                            simp only [setL, List.set_cons_succ, List.set_cons_zero])
                         | (refine wpML_detg (o := ⟨some 92, _, _, _, _, _⟩) (x := .agg #[.int .i64 d.id, .int .i64 d.org, .int .i64 d.format, .int .i64 d.length, .int .i64 d.block, .int .i64 d.keyAt, .int .i64 d.keyLength, .int .i64 d.interval, .int .i64 d.area, .int .i64 d.freeInterval, .int .i64 d.freeArea, .int .i64 d.base, .int .i64 d.altAt, .int .i64 d.altLength, .bool d.unique, .int .i64 d.cls, .string ⟨d.volume.toArray⟩, .string ⟨d.owner.toArray⟩, .int .i64 d.created, .int .i64 d.expires, .bool d.archived]) rfl rfl rfl rfl ?_ ?_
                            · intro a w' he hr K hK
                              simp [Reads, Oper.looksAt, Op.operands, factAt, Is] at hr
                              exact wp_load_row 23 (.tmp 2) rfl (w.heap.size) (by go_simp) _ _ _ _ (he.blk _ _ Hd7.out) dsDesc rfl dsSize (hK _ (Ext.refl _))
                            simp only [setL, List.set_cons_succ, List.set_cons_zero])
                         | (refine wpML_skip rfl rfl rfl rfl ?_
                            simp only [setL, List.set_cons_succ, List.set_cons_zero])
                         | (apply wpML_detg rfl rfl rfl rfl
                            · intro a w' he hr K hK
                              simp [Reads, Oper.looksAt, Op.operands, Call.operands, factAt, Is] at hr
                              have hx := he.cell
                              go_simp
                              try go_bits
                              try (rw [if_neg (by omega)]; go_simp)
                              first
                                | exact hK _ (Ext.refl _)
                                | (go_at_call 40; refine (HK2.out _).mono ?_; rintro e w'' ⟨rfl, he''⟩; exact hK _ he'')
                            simp only [setL, List.set_cons_succ, List.set_cons_zero])
                         | (refine wpML_move _ _ rfl (by first | exact .inl rfl | exact .inr rfl) rfl (by first | exact Is.stable _ | exact AppF.stable _ | exact WrF.stable _ | exact PtrF.stable _ _ | exact IfcF.stable (Fresh.stable _ _ _) _ | exact PairF.stable (RowF.stable _ _ _ _) _ | exact RowF.stable _ _ _ _ | exact Fresh.stable _ _ _) ?_
                            simp only [setL, List.set_cons_succ, List.set_cons_zero, List.getD_cons_succ, List.getD_cons_zero])
                         | (refine wpML_moveC _ rfl (by first | exact .inl rfl | exact .inr rfl) ?_
                            simp only [setL, List.set_cons_succ, List.set_cons_zero])
                         | (apply wpML_det rfl
                            · intro a w' he hr K hK
                              simp [Reads, Oper.looksAt, Op.operands, Call.operands, factAt, Is] at hr
                              have hx := he.cell
                              go_simp
                              try go_bits
                              try (rw [if_neg (by omega)]; go_simp)
                              first
                                | exact hK _ (Ext.refl _)
                                | (go_at_call 40; refine (HK2.out _).mono ?_; rintro e w'' ⟨rfl, he''⟩; exact hK _ he'')
                            simp only [setL, List.set_cons_succ, List.set_cons_zero])
                         | (apply wpML_det rfl
                            · intro a w' he hr K hK
                              simp [Reads, Oper.looksAt, Op.operands, Call.operands, factAt, Fresh] at hr
                              obtain ⟨b, hr1, hr2⟩ := hr
                              go_simp
                              exact hK _ (Ext.refl _)
                            simp only [setL, List.set_cons_succ, List.set_cons_zero]))
                       intro w2 he2
                       repeat (first | with_reducible refine rest_is _ _ _ _ ?_ | (with_reducible refine rest_fact _ _ _ _ ?_; intro _ _) | with_reducible refine rest_end _ _ ?_)
                       simp only [List.reverse_cons, List.reverse_nil, List.nil_append, List.cons_append]
                       go_wp2_with fail
                       go_ret
                       exact ⟨by rw [hF.out]; rfl, ((Hx2.out.trans Hex4.out).trans HX7.out).trans he2⟩
                 · have hljI : decide ((j : Int) < L.length) = false := decide_eq_false (by omega)
                   have hfin : Hid (areaB d a = ivsB d (decide (1 < a.ivs.length)) bel (a.ivs.drop (k + 1)) (a.nd.ents.drop (k + 1))) := Lib.hid (by rw [hN.out, Hrc.out, List.drop_eq_nil_of_le (by omega)]; simp [recsB])
                   obtain ⟨x0, x1, x2, x3, x4, lx⟩ := (Ha4.out.ext hxj).cells
                   have hckj := (hxj.cell gb _ hg4).trans hck4
                   have hgj := Nat.lt_of_lt_of_le hg4 hxj.size
                   have HXj := Lib.hid (Hex4.out.trans hxj)
                   clear hxj
                   go_wp2_with fail
                   go_roundw
                   case rel => exact ⟨k + 1, by omega, by go_num, by rw [HLow.out], by rw [HLow.out]; exact hfin.out, HXj.out⟩
                   case measure => simp [intOf]; omega
         · have hltI : decide ((k : Int) < a.ivs.length) = false := decide_eq_false (by omega)
           have hF : Hid (areaB d a = true) := Lib.hid (by
             rw [Hiv.out, List.drop_eq_nil_of_le (by omega), List.drop_eq_nil_of_le (by have := Hle.out; omega)]; rfl)
           go_wp2
           go_ret
           exact ⟨by rw [hF.out]; rfl, Hx2.out.trans Hex.out⟩
     · have i3 : ((a.ivs.length : Int) != (a.nd.ents.length : Int)) = true := by simp; omega
       rw [decide_eq_false hln] at HA
       have hF : Hid (areaB d a = false) := Lib.hid (by rw [HA.out]; simp)
       clear hln
       go_wp2_with (first
         | ((with_reducible (show wpList _ _ _ (⟨some 12, _, _, _, _, _⟩ :: _) _ _)); refine wpList_ds (o := ⟨some 12, _, _, _, _, _⟩) rfl (.tmp 2) rfl _ rfl d hd0 ?_)
         | (go_at_call 29; refine (HD.out _).mono ?_; rintro e w1 ⟨rfl, he1⟩; have hd1 := hd0.ext he1; have ha1 := ha0.ext he1)
         | ((with_reducible (show wpList _ _ _ (⟨some 16, _, _, _, _, _⟩ :: _) _ _)); refine wpList_ds (o := ⟨some 16, _, _, _, _, _⟩) rfl (.tmp 2) rfl _ rfl d hd1 ?_)
         | ((with_reducible (show wpList _ _ _ (⟨some 17, _, _, _, _, _⟩ :: _) _ _)); refine wpList_row (o := ⟨some 17, _, _, _, _, _⟩) rfl 29 (.tmp 3) rfl _ rfl _ _ _ ha1 arDesc rfl arSize ?_)
         | (go_at_call 32; refine (HS.out _ (he0.trans he1)).mono ?_; rintro e w2 ⟨rfl, he2⟩; obtain ⟨f0, f1, f2, f3, f4, lf⟩ := (ha1.ext he2).cells))
       go_ret
       exact ⟨by rw [hF.out]; rfl, (he0.trans he1).trans he2⟩
end Go.Proofs.YtifmbcjbccedfaaGreatDoor
