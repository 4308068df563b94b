/- A part of the proof. -/
import Derived.Test.YtifmbcjbccedfaaGreatDoorCN
import Derived.Test.YtifmbcjbccedfaaGreatDoorCL
import Derived.Test.YtifmbcjbccedfaaGreatDoorBC

set_option linter.unusedSimpArgs false
set_option linter.unusedVariables false
namespace Dsd
open Go Go.RowKit
section
variable {P : Program} {ops : Array Oper} {Q : Exit → Act → World → Prop} {w0 : World} {tail : List Oper} {ds : List Deferred} {rest : List Oper} {o : Oper} {L : List Fact}
theorem wpML_factg (f : Fact) (hf : f.stable) {g : Nat} {b v : Bool} {t : Tmp} (hg : o.guard = some (g, b)) (ht : (ops[g]?).bind (·.dst) = some t) (hL : L.getD t (Is undef) = Is (.bool v)) (hvb : (v == b) = true)
   (h1 : ∀ a w, Ext w0 w → Reads ops (factAt L) o a w → ∀ K : Act → World → Prop, (∀ x w', Ext w w' → f x w' → K (a.put o.dst x) w') → o.wp P a w K Q)
   (h : wpML P ops Q w0 tail ds rest (setL L o.dst f)) : wpML P ops Q w0 tail ds (o :: rest) L :=
 ⟨f, hf, fun a w he hr => by unfold StepTo; rw [if_pos (by rw [wanted_of hr hg ht hL]; exact hvb)]; exact h1 a w he hr, h⟩
end
end Dsd
namespace Go.Proofs.YtifmbcjbccedfaaGreatDoor
open Go.RowKit Dsd
def PrF (L : List (List UInt8 × List UInt8)) : Fact := fun x w => ∃ q c, x = .slice q L.length c ∧ Prs w q L
theorem PrF.stable (L : List (List UInt8 × List UInt8)) : (PrF L).stable := fun _ _ _ he ⟨q, c, h1, h2⟩ => ⟨q, c, h1, h2.ext he⟩
theorem pairsG_len {d : DS} {a : Ar} : (pairsG d a).length ≤ 120000 := by
 unfold pairsG
 split
 · rename_i hB
   have s : ASpec d a := area_iff.1 hB
   obtain ⟨n1, n2, n3, n4, n5⟩ := inv_small s
   have hL : ∀ i, (a.ivs.getD i []).length ≤ 1000 := fun i => by
     by_cases hi : i < a.ivs.length
     · have := (fits_small (s.iv hi).1).1; omega
     · simp [List.getD, List.getElem?_eq_none (show a.ivs.length ≤ i by omega)]
   have h1 := lensTo_flat a.ivs a.ivs.length
   rw [List.take_length] at h1
   have h2 := lensTo_mono (m := 1000) hL (Nat.le_refl a.ivs.length)
   have h3 : a.ivs.length * 1000 ≤ 120 * 1000 := Nat.mul_le_mul_right _ (by omega)
   unfold pairsD recsOf
   rw [List.length_map]
   omega
 · simp
theorem readD_small (M : List (List UInt8)) (d : DS) (base : Int) : (readD M d base).1.nd.ents.length ≤ 1000000 ∧ (readD M d base).1.ivs.length ≤ 1000000 ∧ ∀ i, ((readD M d base).1.ivs.getD i []).length ≤ 1000000 := by
 have hz : ∀ c : Int, ((Ar.zero, c) : Ar × Int).1.nd.ents.length ≤ 1000000 ∧ ((Ar.zero, c) : Ar × Int).1.ivs.length ≤ 1000000 ∧ ∀ i, (((Ar.zero, c) : Ar × Int).1.ivs.getD i []).length ≤ 1000000 := fun c => by simp [Ar.zero, Nd.zero]
 unfold readD
 split
 · exact hz _
 · split
   · exact hz _
   · split
     · exact hz _
     · split
       · exact hz _
       · split
         · exact hz _
         · rename_i h
           have s := area_iff.1 (by simpa using h)
           obtain ⟨n1, n2, _, _, n5⟩ := inv_small s
           exact ⟨Nat.le_trans n1 (by decide), Nat.le_trans n2 (by decide), n5⟩
set_option maxRecDepth 100000 in
set_option maxHeartbeats 4000000 in
theorem AreaReads_any (d : DS) (a : Ar) (q : Option Addr) (c : Nat) (p : Option Addr) (m : Nat) (pp : Option Addr) (cap n : Nat) (pages : List (List UInt8)) (base : Int) (w : World)
   (hv : ArW w a q c p m) (hc : c ≤ maxLen) (hs : ∀ i, (entAt a.nd.ents i).1.length ≤ maxLen) (h3 : ∀ i, (a.ivs.getD i []).length ≤ maxLen ∧ ∀ s ∈ a.ivs.getD i [], s.length ≤ maxLen)
   (hps : Strs w pp pages) (hn : pages.length = n) (hcap : n ≤ cap) (hcm : cap ≤ maxLen) :
   Calls Tryz.prog 3 #[.agg #[.int .i64 d.id, .int .i64 d.org, .int .i64 d.format, .int .i64 d.length, .int .i64 d.block, .int .i64 d.keyAt, .int .i64 d.keyLength, .int .i64 d.interval, .int .i64 d.area, .int .i64 d.freeInterval, .int .i64 d.freeArea, .int .i64 d.base, .int .i64 d.altAt, .int .i64 d.altLength, .bool d.unique, .int .i64 d.cls, .string ⟨d.volume.toArray⟩, .string ⟨d.owner.toArray⟩, .int .i64 d.created, .int .i64 d.expires, .bool d.archived], .agg (arC a q c p m), .slice pp n cap, .int .i64 base] w fun e w' => e = .returned (.bool true) ∧ Ext w w' := by
 have HFa := Lib.hid (fun W (e : Ext w W) => FewA_any a q c p m W (hv.ext e) hc hs (fun i => (h3 i).1))
 have hda := ds_ar w d a q c p m
 have Hv := Lib.hid hv
 have Hps := Lib.hid hps
 have HSm := Lib.hid (fun W (h : Strs W pp pages) => Small_any pp cap n pages 30 W h hn (by omega))
 have Hn := Lib.hid hn
 clear hv hs h3 hc hps hcap hcm hn
 cases hf : fewA a
 · rw [hf] at HFa
   clear hf
   go_enter Tryz.func3, Tryz.ntmps3
   go_upto_region 1 with (fail)
   refine wp_name (fun w0 => Ext w w0 ∧ DsAt w0 w.heap.size d ∧ ArAt w0 (w.heap.size + 1) a q c p m) hda ?_
   clear hda
   rintro w0 ⟨he0, hd0, ha0⟩
   go_upto_region 3 with (go_at_call 5; refine (awakeA_any _).mono ?_; rintro e w1 ⟨rfl, he1⟩)
   have ha1 := ha0.ext he1
   go_wp2_with (first
     | (refine wpList_row (o := ⟨some 15, _, _, _, _, _⟩) rfl 29 (.tmp 5) rfl _ rfl _ _ _ ha1 arDesc rfl arSize ?_)
     | (go_at_call 6; refine (HFa.out _ (he0.trans he1)).mono ?_; rintro e w2 ⟨rfl, he2⟩))
   go_ret
   exact ⟨rfl, (he0.trans he1).trans he2⟩
 · rw [hf] at HFa
   obtain ⟨s1, s2, s3⟩ := few_small hf
   clear hf
   cases hsh : shortB pages 30 600
   · rw [hsh] at HSm
     clear hsh s1 s2 s3
     go_enter Tryz.func3, Tryz.ntmps3
     go_upto_region 1 with (fail)
     refine wp_name (fun w0 => Ext w w0 ∧ DsAt w0 w.heap.size d ∧ ArAt w0 (w.heap.size + 1) a q c p m) hda ?_
     clear hda
     rintro w0 ⟨he0, hd0, ha0⟩
     go_upto_region 3 with (go_at_call 5; refine (awakeA_any _).mono ?_; rintro e w1 ⟨rfl, he1⟩)
     have ha1 := ha0.ext he1
     go_wp2_with (first
       | (refine wpList_row (o := ⟨some 15, _, _, _, _, _⟩) rfl 29 (.tmp 5) rfl _ rfl _ _ _ ha1 arDesc rfl arSize ?_)
       | (go_at_call 6; refine (HFa.out _ (he0.trans he1)).mono ?_; rintro e w2 ⟨rfl, he2⟩)
       | (go_at_call 7; refine (HSm.out _ (Hps.out.ext ((he0.trans he1).trans he2))).mono ?_; rintro e w3 ⟨rfl, rfl⟩))
     go_ret
     exact ⟨rfl, (he0.trans he1).trans he2⟩
   · rw [hsh] at HSm
     have hsm : Small pages := by
       unfold shortB at hsh
       simp only [Bool.and_eq_true, decide_eq_true_eq, List.all_eq_true] at hsh
       exact ⟨by omega, fun s hs => by have := hsh.2 s hs; omega⟩
     have HRP := Lib.hid (fun W (e : Ext w W) => ReadP_any pp cap n pages d base W (Hps.out.ext e) Hn.out hsm)
     have HRR := Lib.hid (fun W (e : Ext w W) => ReadR_any pp cap n pages d base W (Hps.out.ext e) Hn.out hsm)
     have HSz := Lib.hid (readD_small pages d base)
     have HV1 := Lib.hid (fun W (e : Ext w W) => ValidG_anyW d a q c p m W (Hv.out.ext e) s1 s2 s3)
     have HV2 := Lib.hid (fun W (e : Ext w W) => ValidAR_anyW d a q c p m W (Hv.out.ext e) s1 s2 s3)
     have HP1 := Lib.hid (fun W (e : Ext w W) => PairsG_any d a q c p m W (Hv.out.ext e) s1 s2 s3)
     have HP2 := Lib.hid (fun W (e : Ext w W) => PairsR_any d a q c p m W (Hv.out.ext e) s1 s2 s3)
     unfold ReadOut at HRP HRR
     clear hsh s1 s2 s3 hsm
     generalize readD pages d base = rd at *
     obtain ⟨x, er⟩ := rd
     simp only at HRP HRR HSz
     go_enter Tryz.func3, Tryz.ntmps3
     go_upto_region 1 with (fail)
     refine wp_name (fun w0 => Ext w w0 ∧ DsAt w0 w.heap.size d ∧ ArAt w0 (w.heap.size + 1) a q c p m) hda ?_
     clear hda
     rintro w0 ⟨he0, hd0, ha0⟩
     go_upto_region 3 with (go_at_call 5; refine (awakeA_any _).mono ?_; rintro e w1 ⟨rfl, he1⟩)
     have ha1 := ha0.ext he1
     go_upto_region 5 with (first
       | (refine wpList_row (o := ⟨some 15, _, _, _, _, _⟩) rfl 29 (.tmp 5) rfl _ rfl _ _ _ ha1 arDesc rfl arSize ?_)
       | (go_at_call 6; refine (HFa.out _ (he0.trans he1)).mono ?_; rintro e w2 ⟨rfl, he2⟩)
       | (go_at_call 7; refine (HSm.out _ (Hps.out.ext ((he0.trans he1).trans he2))).mono ?_; rintro e w3 ⟨rfl, rfl⟩))
     have hx2 := (he0.trans he1).trans he2
     have hd2 := hd0.ext (he1.trans he2)
     have ha2 := ha1.ext he2
     clear he0 hd0 ha0 he1 ha1 he2
     go_upto_region 6 with (first
       | (refine wpList_ds (o := ⟨some 26, _, _, _, _, _⟩) rfl (.tmp 4) rfl _ rfl d hd2 ?_)
       | (go_at_call 8; refine (HRP.out _ hx2).mono ?_; rintro e w3 ⟨he3, q3, c3, p3, m3, rfl, hv3⟩)
       | (refine wpList_put rfl 29 (.tmp 9) (.tmp 29) rfl _ (arC x q3 c3 p3 m3) rfl rfl _ _ (Blk.new w3 _) arSize rfl (ar_one _ _ _ _ _) ?_; intro wv4 hb4' hcc))
     have hxa := hcc.ext (Ext.alloc w3 _) (Nat.le_refl _)
     have hba := hb4'
     refine wp_name (fun w4 => Ext w w4 ∧ DsAt w4 w.heap.size d ∧ ArAt w4 (w.heap.size + 1) a q c p m ∧ ArAt w4 w3.heap.size x q3 c3 p3 m3 ∧ ArV w4 x q3 c3 p3 m3) ⟨hx2.trans (he3.trans hxa), hd2.ext (he3.trans hxa), ha2.ext (he3.trans hxa), hba, hv3.ext hxa⟩ ?_
     clear hxa hba hb4' hcc hx2 hd2 ha2 he3 hv3 HRP
     clear wv4
     generalize w3.heap.size = b1 at *
     rintro w4 ⟨hx4, hd4, ha4, hb4, hv4⟩
     go_upto_region 7 with (first
       | (refine wpList_ds (o := ⟨some 33, _, _, _, _, _⟩) rfl (.tmp 4) rfl _ rfl d hd4 ?_)
       | (go_at_call 9; refine (HRR.out _ hx4).mono ?_; rintro e w5 ⟨he5, q5, c5, p5, m5, rfl, hv5⟩)
       | (refine wpList_put rfl 29 (.tmp 11) (.tmp 36) rfl _ (arC x q5 c5 p5 m5) rfl rfl _ _ (Blk.new w5 _) arSize rfl (ar_one _ _ _ _ _) ?_; intro wv6 hb6' hcc))
     have hxa := hcc.ext (Ext.alloc w5 _) (Nat.le_refl _)
     have hba := hb6'
     refine wp_name (fun w6 => Ext w w6 ∧ DsAt w6 w.heap.size d ∧ ArAt w6 (w.heap.size + 1) a q c p m ∧ ArAt w6 b1 x q3 c3 p3 m3 ∧ ArAt w6 w5.heap.size x q5 c5 p5 m5 ∧ ArV w6 x q3 c3 p3 m3 ∧ ArV w6 x q5 c5 p5 m5) ⟨hx4.trans (he5.trans hxa), hd4.ext (he5.trans hxa), ha4.ext (he5.trans hxa), hb4.ext (he5.trans hxa), hba, hv4.ext (he5.trans hxa), hv5.ext hxa⟩ ?_
     clear hxa hba hb6' hcc hx4 hd4 ha4 hb4 hv4 he5 hv5 HRR
     clear wv6
     generalize w5.heap.size = b2 at *
     rintro w6 ⟨hx6, hd6, ha6, hb6, hy6, hv6, hu6⟩
     have HSa := Lib.hid (fun W (e : Ext w6 W) => SameA_any x q3 c3 p3 m3 q5 c5 p5 m5 W (hv6.ext e) (hu6.ext e) HSz.out.1 HSz.out.2.1 HSz.out.2.2)
     have HP1' : Hid (∀ W, Ext w6 W → Calls Tryz.prog 13 #[.agg #[.int .i64 d.id, .int .i64 d.org, .int .i64 d.format, .int .i64 d.length, .int .i64 d.block, .int .i64 d.keyAt, .int .i64 d.keyLength, .int .i64 d.interval, .int .i64 d.area, .int .i64 d.freeInterval, .int .i64 d.freeArea, .int .i64 d.base, .int .i64 d.altAt, .int .i64 d.altLength, .bool d.unique, .int .i64 d.cls, .string ⟨d.volume.toArray⟩, .string ⟨d.owner.toArray⟩, .int .i64 d.created, .int .i64 d.expires, .bool d.archived], .agg (arC a q c p m)] W fun e w' => ∃ v, e = .returned v ∧ Ext W w' ∧ PrF (pairsG d a) v w') := Lib.hid (fun W e => (HP1.out W (hx6.trans e)).mono (by
       rintro e w' ⟨h1, v, rfl, h2⟩
       obtain ⟨q, c, rfl, h3, _⟩ := own_prs h2
       exact ⟨_, rfl, h1, q, c, rfl, h3⟩))
     have HP2' : Hid (∀ W, Ext w6 W → Calls Tryz.prog 14 #[.agg #[.int .i64 d.id, .int .i64 d.org, .int .i64 d.format, .int .i64 d.length, .int .i64 d.block, .int .i64 d.keyAt, .int .i64 d.keyLength, .int .i64 d.interval, .int .i64 d.area, .int .i64 d.freeInterval, .int .i64 d.freeArea, .int .i64 d.base, .int .i64 d.altAt, .int .i64 d.altLength, .bool d.unique, .int .i64 d.cls, .string ⟨d.volume.toArray⟩, .string ⟨d.owner.toArray⟩, .int .i64 d.created, .int .i64 d.expires, .bool d.archived], .agg (arC a q c p m)] W fun e w' => ∃ v, e = .returned v ∧ Ext W w' ∧ PrF (pairsG d a) v w') := Lib.hid (fun W e => (HP2.out W (hx6.trans e)).mono (by
       rintro e w' ⟨h1, v, rfl, h2⟩
       obtain ⟨q, c, rfl, h3, _⟩ := own_prs h2
       exact ⟨_, rfl, h1, q, c, rfl, h3⟩))
     have HSP : Hid (∀ W q1 c1 q2 c2, Prs W q1 (pairsG d a) → Prs W q2 (pairsG d a) → Calls Tryz.prog 12 #[.slice q1 (pairsG d a).length c1, .slice q2 (pairsG d a).length c2] W fun e w' => e = .returned (.bool true) ∧ Ext W w') := Lib.hid (fun W q1 c1 q2 c2 h1 h2 => (SamePairs_any q1 q2 c1 _ c2 _ _ _ W h1 h2 rfl rfl (Nat.le_trans pairsG_len (by decide)) (Nat.le_trans pairsG_len (by decide))).mono (by
       rintro e w' ⟨rfl, h⟩
       exact ⟨by simp, Ext.of_drawn h⟩))
     have HVa : Hid (∀ W, Ext w6 W → Calls Tryz.prog 10 #[.agg #[.int .i64 d.id, .int .i64 d.org, .int .i64 d.format, .int .i64 d.length, .int .i64 d.block, .int .i64 d.keyAt, .int .i64 d.keyLength, .int .i64 d.interval, .int .i64 d.area, .int .i64 d.freeInterval, .int .i64 d.freeArea, .int .i64 d.base, .int .i64 d.altAt, .int .i64 d.altLength, .bool d.unique, .int .i64 d.cls, .string ⟨d.volume.toArray⟩, .string ⟨d.owner.toArray⟩, .int .i64 d.created, .int .i64 d.expires, .bool d.archived], .agg (arC a q c p m)] W fun e w' => e = .returned (.bool (areaB d a)) ∧ Ext W w') := Lib.hid (fun W e => HV1.out W (hx6.trans e))
     have HVb : Hid (∀ W, Ext w6 W → Calls Tryz.prog 11 #[.agg #[.int .i64 d.id, .int .i64 d.org, .int .i64 d.format, .int .i64 d.length, .int .i64 d.block, .int .i64 d.keyAt, .int .i64 d.keyLength, .int .i64 d.interval, .int .i64 d.area, .int .i64 d.freeInterval, .int .i64 d.freeArea, .int .i64 d.base, .int .i64 d.altAt, .int .i64 d.altLength, .bool d.unique, .int .i64 d.cls, .string ⟨d.volume.toArray⟩, .string ⟨d.owner.toArray⟩, .int .i64 d.created, .int .i64 d.expires, .bool d.archived], .agg (arC a q c p m)] W fun e w' => e = .returned (.bool (areaB d a)) ∧ Ext W w') := Lib.hid (fun W e => HV2.out W (hx6.trans e))
     have Hd6 := Lib.hid hd6
     have Ha6 := Lib.hid ha6
     have Hb6 := Lib.hid hb6
     have Hy6 := Lib.hid hy6
     have Hx6 := Lib.hid hx6
     clear HV1 HV2 HP1 HP2 hv6 hu6 hd6 ha6 hb6 hy6 hx6
     generalize pairsG d a = PL at *
     generalize areaB d a = ok at *
     have hee : (er == er) = true := by simp
     have hoo : (ok == ok) = true := by simp
     refine wp_region_mk 200 (Ext.refl w6) (by kernel_rfl) (by kernel_rfl) (by kernel_rfl) ?_
     simp only [List.take_succ_cons, List.take_zero, List.take_nil, List.drop_succ_cons, List.drop_zero, List.drop_nil, List.map_cons, List.map_nil]
     repeat (first
       | (refine wpML_det (o := ⟨some 38, _, _, _, _, _⟩) (v := .agg #[.int .i64 d.id, .int .i64 d.org, .int .i64 d.format, .int .i64 d.length, .int .i64 d.block, .int .i64 d.keyAt, .int .i64 d.keyLength, .int .i64 d.interval, .int .i64 d.area, .int .i64 d.freeInterval, .int .i64 d.freeArea, .int .i64 d.base, .int .i64 d.altAt, .int .i64 d.altLength, .bool d.unique, .int .i64 d.cls, .string ⟨d.volume.toArray⟩, .string ⟨d.owner.toArray⟩, .int .i64 d.created, .int .i64 d.expires, .bool d.archived]) rfl ?_ ?_
          · intro a w' he hr K hK
            simp [Reads, Oper.looksAt, Op.operands, factAt, Is] at hr
            exact wp_load_row 23 (.tmp 4) rfl (w.heap.size) (by go_simp) _ _ _ _ (he.blk _ _ Hd6.out) dsDesc rfl dsSize (hK _ (Ext.refl _))
          simp only [setL, List.set_cons_succ, List.set_cons_zero])
       | (refine wpML_det (o := ⟨some 39, _, _, _, _, _⟩) (v := .agg (arC a q c p m)) rfl ?_ ?_
          · intro a w' he hr K hK
            simp [Reads, Oper.looksAt, Op.operands, factAt, Is] at hr
            exact wp_load_row 29 (.tmp 5) rfl (w.heap.size + 1) (by go_simp) _ _ _ _ (he.blk _ _ Ha6.out) arDesc rfl arSize (hK _ (Ext.refl _))
          simp only [setL, List.set_cons_succ, List.set_cons_zero])
       | (refine wpML_det (o := ⟨some 40, _, _, _, _, _⟩) (v := .bool ok) rfl ?_ ?_
          · intro a w' he hr K hK
            simp [Reads, Oper.looksAt, Op.operands, Call.operands, factAt, Is] at hr
            go_simp
            refine (HVa.out _ he).mono ?_
            rintro e w'' ⟨rfl, he''⟩
            exact hK _ he''
          simp only [setL, List.set_cons_succ, List.set_cons_zero])
       | (refine wpML_det (o := ⟨some 41, _, _, _, _, _⟩) (v := .agg #[.int .i64 d.id, .int .i64 d.org, .int .i64 d.format, .int .i64 d.length, .int .i64 d.block, .int .i64 d.keyAt, .int .i64 d.keyLength, .int .i64 d.interval, .int .i64 d.area, .int .i64 d.freeInterval, .int .i64 d.freeArea, .int .i64 d.base, .int .i64 d.altAt, .int .i64 d.altLength, .bool d.unique, .int .i64 d.cls, .string ⟨d.volume.toArray⟩, .string ⟨d.owner.toArray⟩, .int .i64 d.created, .int .i64 d.expires, .bool d.archived]) rfl ?_ ?_
          · intro a w' he hr K hK
            simp [Reads, Oper.looksAt, Op.operands, factAt, Is] at hr
            exact wp_load_row 23 (.tmp 4) rfl (w.heap.size) (by go_simp) _ _ _ _ (he.blk _ _ Hd6.out) dsDesc rfl dsSize (hK _ (Ext.refl _))
          simp only [setL, List.set_cons_succ, List.set_cons_zero])
       | (refine wpML_det (o := ⟨some 42, _, _, _, _, _⟩) (v := .agg (arC a q c p m)) rfl ?_ ?_
          · intro a w' he hr K hK
            simp [Reads, Oper.looksAt, Op.operands, factAt, Is] at hr
            exact wp_load_row 29 (.tmp 5) rfl (w.heap.size + 1) (by go_simp) _ _ _ _ (he.blk _ _ Ha6.out) arDesc rfl arSize (hK _ (Ext.refl _))
          simp only [setL, List.set_cons_succ, List.set_cons_zero])
       | (refine wpML_det (o := ⟨some 43, _, _, _, _, _⟩) (v := .bool ok) rfl ?_ ?_
          · intro a w' he hr K hK
            simp [Reads, Oper.looksAt, Op.operands, Call.operands, factAt, Is] at hr
            go_simp
            refine (HVb.out _ he).mono ?_
            rintro e w'' ⟨rfl, he''⟩
            exact hK _ he''
          simp only [setL, List.set_cons_succ, List.set_cons_zero])
       | (refine wpML_detg (o := ⟨some 46, _, _, _, _, _⟩) (x := .agg #[.int .i64 d.id, .int .i64 d.org, .int .i64 d.format, .int .i64 d.length, .int .i64 d.block, .int .i64 d.keyAt, .int .i64 d.keyLength, .int .i64 d.interval, .int .i64 d.area, .int .i64 d.freeInterval, .int .i64 d.freeArea, .int .i64 d.base, .int .i64 d.altAt, .int .i64 d.altLength, .bool d.unique, .int .i64 d.cls, .string ⟨d.volume.toArray⟩, .string ⟨d.owner.toArray⟩, .int .i64 d.created, .int .i64 d.expires, .bool d.archived]) rfl rfl rfl rfl ?_ ?_
          · intro a w' he hr K hK
            simp [Reads, Oper.looksAt, Op.operands, factAt, Is] at hr
            exact wp_load_row 23 (.tmp 4) rfl (w.heap.size) (by go_simp) _ _ _ _ (he.blk _ _ Hd6.out) dsDesc rfl dsSize (hK _ (Ext.refl _))
          simp only [setL, List.set_cons_succ, List.set_cons_zero])
       | (refine wpML_detg (o := ⟨some 47, _, _, _, _, _⟩) (x := .agg (arC a q c p m)) rfl rfl rfl rfl ?_ ?_
          · intro a w' he hr K hK
            simp [Reads, Oper.looksAt, Op.operands, factAt, Is] at hr
            exact wp_load_row 29 (.tmp 5) rfl (w.heap.size + 1) (by go_simp) _ _ _ _ (he.blk _ _ Ha6.out) arDesc rfl arSize (hK _ (Ext.refl _))
          simp only [setL, List.set_cons_succ, List.set_cons_zero])
       | (refine wpML_detg (o := ⟨some 49, _, _, _, _, _⟩) (x := .agg #[.int .i64 d.id, .int .i64 d.org, .int .i64 d.format, .int .i64 d.length, .int .i64 d.block, .int .i64 d.keyAt, .int .i64 d.keyLength, .int .i64 d.interval, .int .i64 d.area, .int .i64 d.freeInterval, .int .i64 d.freeArea, .int .i64 d.base, .int .i64 d.altAt, .int .i64 d.altLength, .bool d.unique, .int .i64 d.cls, .string ⟨d.volume.toArray⟩, .string ⟨d.owner.toArray⟩, .int .i64 d.created, .int .i64 d.expires, .bool d.archived]) rfl rfl rfl rfl ?_ ?_
          · intro a w' he hr K hK
            simp [Reads, Oper.looksAt, Op.operands, factAt, Is] at hr
            exact wp_load_row 23 (.tmp 4) rfl (w.heap.size) (by go_simp) _ _ _ _ (he.blk _ _ Hd6.out) dsDesc rfl dsSize (hK _ (Ext.refl _))
          simp only [setL, List.set_cons_succ, List.set_cons_zero])
       | (refine wpML_detg (o := ⟨some 50, _, _, _, _, _⟩) (x := .agg (arC a q c p m)) rfl rfl rfl rfl ?_ ?_
          · intro a w' he hr K hK
            simp [Reads, Oper.looksAt, Op.operands, factAt, Is] at hr
            exact wp_load_row 29 (.tmp 5) rfl (w.heap.size + 1) (by go_simp) _ _ _ _ (he.blk _ _ Ha6.out) arDesc rfl arSize (hK _ (Ext.refl _))
          simp only [setL, List.set_cons_succ, List.set_cons_zero])
       | (refine wpML_detg (o := ⟨some 55, _, _, _, _, _⟩) (x := .agg (arC x q3 c3 p3 m3)) rfl rfl rfl rfl ?_ ?_
          · intro a w' he hr K hK
            simp [Reads, Oper.looksAt, Op.operands, factAt, Is] at hr
            exact wp_load_row 29 (.tmp 9) rfl (b1) (by go_simp) _ _ _ _ (he.blk _ _ Hb6.out) arDesc rfl arSize (hK _ (Ext.refl _))
          simp only [setL, List.set_cons_succ, List.set_cons_zero])
       | (refine wpML_detg (o := ⟨some 56, _, _, _, _, _⟩) (x := .agg (arC x q5 c5 p5 m5)) rfl rfl rfl rfl ?_ ?_
          · intro a w' he hr K hK
            simp [Reads, Oper.looksAt, Op.operands, factAt, Is] at hr
            exact wp_load_row 29 (.tmp 11) rfl (b2) (by go_simp) _ _ _ _ (he.blk _ _ Hy6.out) arDesc rfl arSize (hK _ (Ext.refl _))
          simp only [setL, List.set_cons_succ, List.set_cons_zero])
       | (refine wpML_factg (o := ⟨some 48, _, _, _, _, _⟩) (PrF PL) (PrF.stable _) rfl rfl rfl rfl ?_ ?_
          · intro a w' he hr K hK
            simp [Reads, Oper.looksAt, Op.operands, Call.operands, factAt, Is] at hr
            go_simp
            refine (HP1'.out _ he).mono ?_
            rintro e w'' ⟨v, rfl, he', hf⟩
            exact hK _ _ he' hf
          simp only [setL, List.set_cons_succ, List.set_cons_zero])
       | (refine wpML_factg (o := ⟨some 51, _, _, _, _, _⟩) (PrF PL) (PrF.stable _) rfl rfl rfl rfl ?_ ?_
          · intro a w' he hr K hK
            simp [Reads, Oper.looksAt, Op.operands, Call.operands, factAt, Is] at hr
            go_simp
            refine (HP2'.out _ he).mono ?_
            rintro e w'' ⟨v, rfl, he', hf⟩
            exact hK _ _ he' hf
          simp only [setL, List.set_cons_succ, List.set_cons_zero])
       | (refine wpML_detg (o := ⟨some 52, _, _, _, _, _⟩) (x := .bool true) rfl rfl rfl rfl ?_ ?_
          · intro a w' he hr K hK
            obtain ⟨q1, c1, e1, p1⟩ := hr 48 (by simp [Oper.looksAt, Op.operands, Call.operands])
            obtain ⟨q2, c2, e2, p2⟩ := hr 51 (by simp [Oper.looksAt, Op.operands, Call.operands])
            simp at e1 e2
            go_simp
            refine (HSP.out _ _ _ _ _ p1 p2).mono ?_
            rintro e w'' ⟨rfl, he'⟩
            exact hK _ he'
          simp only [setL, List.set_cons_succ, List.set_cons_zero])
       | (refine wpML_detg (o := ⟨some 57, _, _, _, _, _⟩) (x := .bool true) rfl rfl rfl rfl ?_ ?_
          · intro a w' he hr K hK
            simp [Reads, Oper.looksAt, Op.operands, Call.operands, factAt, Is] at hr
            go_simp
            refine (HSa.out _ he).mono ?_
            rintro e w'' ⟨rfl, he''⟩
            exact hK _ he''
          simp only [setL, List.set_cons_succ, List.set_cons_zero])
       | (refine wpML_skip rfl rfl rfl rfl ?_
          simp only [setL, List.set_cons_succ, List.set_cons_zero])
       | (apply wpML_detg rfl rfl rfl rfl
          · intro a w' he hr K hK
            simp [Reads, Oper.looksAt, Op.operands, Call.operands, factAt, Is] at hr
            have hx := he.cell
            go_simp
            try go_bits
            try (rw [if_neg (by omega)]; go_simp)
            first
              | exact hK _ (Ext.refl _)
          simp only [setL, List.set_cons_succ, List.set_cons_zero])
       | (refine wpML_move _ _ rfl (by first | exact .inl rfl | exact .inr rfl) rfl (by first | exact Is.stable _ | exact AppF.stable _ | exact WrF.stable _ | exact PtrF.stable _ _ | exact IfcF.stable (Fresh.stable _ _ _) _ | exact PairF.stable (RowF.stable _ _ _ _) _ | exact RowF.stable _ _ _ _ | exact Fresh.stable _ _ _) ?_
          simp only [setL, List.set_cons_succ, List.set_cons_zero, List.getD_cons_succ, List.getD_cons_zero])
       | (refine wpML_moveC _ rfl (by first | exact .inl rfl | exact .inr rfl) ?_
          simp only [setL, List.set_cons_succ, List.set_cons_zero])
       | (apply wpML_det rfl
          · intro a w' he hr K hK
            simp [Reads, Oper.looksAt, Op.operands, Call.operands, factAt, Is] at hr
            have hx := he.cell
            go_simp
            try go_bits
            try (rw [if_neg (by omega)]; go_simp)
            first
              | exact hK _ (Ext.refl _)
          simp only [setL, List.set_cons_succ, List.set_cons_zero])
       | (apply wpML_det rfl
          · intro a w' he hr K hK
            simp [Reads, Oper.looksAt, Op.operands, Call.operands, factAt, Fresh] at hr
            obtain ⟨b, hr1, hr2⟩ := hr
            go_simp
            exact hK _ (Ext.refl _)
          simp only [setL, List.set_cons_succ, List.set_cons_zero]))
     intro w2 he2
     repeat (first | with_reducible refine rest_is _ _ _ _ ?_ | (with_reducible refine rest_fact _ _ _ _ ?_; intro _ _) | with_reducible refine rest_end _ _ ?_)
     simp only [List.reverse_cons, List.reverse_nil, List.nil_append, List.cons_append]
     have HX := Lib.hid (Hx6.out.trans he2)
     clear he2
     go_wp2
     go_ret
     exact ⟨rfl, HX.out⟩
end Go.Proofs.YtifmbcjbccedfaaGreatDoor
