/- A part of the proof. -/
import Derived.Test.YtifmbcjbccedfaaGreatDoorCB
import Derived.Test.YtifmbcjbccedfaaGreatDoorCC
import Derived.Test.YtifmbcjbccedfaaGreatDoorBM
import Derived.Test.YtifmbcjbccedfaaGreatDoorW3
import Derived.Test.YtifmbcjbccedfaaGreatDoorAW0

set_option linter.unusedSimpArgs false
set_option linter.unusedVariables false
namespace Dsd
theorem ivPages_at {d : DS} {E : List Ent} {V : List Recs} (h : V.length = E.length) {k : Nat} (hk : k < V.length) : (ivPages d E V).take (k + 1) = (ivPages d E V).take k ++ [((entAt E k).2, encStr d.interval (V.getD k []))] := by
 have hl := ivPages_len (d := d) h
 rw [List.take_succ_eq_append_getElem (by omega)]
 congr 1
 simp [ivPages, entAt, List.getD, hk, show k < E.length by omega]
theorem pagesL_take {d : DS} {a : Ar} (h : a.ivs.length = a.nd.ents.length) {k : Nat} (hk : k < a.ivs.length) : (pagesL d a).take (k + 2) = (pagesL d a).take (k + 1) ++ [((entAt a.nd.ents k).2, encStr d.interval (a.ivs.getD k []))] := by
 unfold pagesL
 rw [List.take_succ_cons, List.take_succ_cons, ivPages_at h hk, List.cons_append]
end Dsd
namespace Go.Proofs.YtifmbcjbccedfaaGreatDoor
open Go.RowKit Dsd
theorem infoWr : (Tryz.prog.info? 91).map (fun i => (i.zero, i.size, i.bytes)) = some (some (.agg #[.int .i64 0, .string ByteArray.empty]), 2, 24) := by kernel_rfl
theorem wrBuilt (k : Int) (s : ByteArray) : Tryz.prog.built 91 [(0, .int .i64 k), (1, .string s)] = some #[.int .i64 k, .string s] := by kernel_rfl
theorem own_rowW {w : World} {B g n c : Nat} {L : List Wr} (h : w.ownsRow B 91 2 (.slice (some ⟨g, 0, none⟩) n c) n (wrC L)) : RowW w g (c * 2) L ∧ L.length = n ∧ n ≤ c ∧ c ≤ maxLen ∧ B ≤ g := by
 have hl := h.1
 rw [wrC_len] at hl
 obtain ⟨_, ⟨h1, _⟩ | ⟨g', cap, cur, h1, h2, h3, h4, h5, h6, h7⟩⟩ := h
 · simp at h1
 · simp only [Value.slice.injEq, Option.some.injEq, Addr.mk.injEq, and_true] at h1
   obtain ⟨rfl, _, rfl⟩ := h1
   exact ⟨⟨cur, h3, h6, by rw [hl]; exact h7⟩, by omega, h4, h5, h2⟩
theorem rowW_own {w : World} {B g n c : Nat} {L : List Wr} (h : RowW w g (c * 2) L) (hl : L.length = n) (hn : n ≤ c) (hc : c ≤ maxLen) (hB : B ≤ g) : w.ownsRow B 91 2 (.slice (some ⟨g, 0, none⟩) n c) n (wrC L) := by
 obtain ⟨cur, h1, h2, h3⟩ := h
 exact ⟨by rw [wrC_len, hl], .inr ⟨g, c, cur, rfl, hB, h1, hn, hc, h2, by rw [← hl]; exact h3⟩⟩
def PagesOut (d : DS) (a : Ar) (w : World) (e : Ending) (w' : World) : Prop := Ext w w' ∧ ∃ v, e = .returned (.tuple #[v, .int .i64 (pagesE d a)]) ∧ w'.ownsRow w.heap.size 91 2 v (pagesD d a).length (wrC (pagesD d a))
set_option maxRecDepth 100000 in
set_option maxHeartbeats 4000000 in
theorem Pages_any (d : DS) (a : Ar) (q : Option Addr) (c : Nat) (p : Option Addr) (m : Nat) (w : World) (hv : ArW w a q c p m) (h1 : a.nd.ents.length ≤ 1000000) (h2 : a.ivs.length ≤ 1000000) (h3 : ∀ i, Small (a.ivs.getD i [])) :
   Calls Tryz.prog 19 #[.agg #[.int .i64 d.id, .int .i64 d.org, .int .i64 d.format, .int .i64 d.length, .int .i64 d.block, .int .i64 d.keyAt, .int .i64 d.keyLength, .int .i64 d.interval, .int .i64 d.area, .int .i64 d.freeInterval, .int .i64 d.freeArea, .int .i64 d.base, .int .i64 d.altAt, .int .i64 d.altLength, .bool d.unique, .int .i64 d.cls, .string ⟨d.volume.toArray⟩, .string ⟨d.owner.toArray⟩, .int .i64 d.created, .int .i64 d.expires, .bool d.archived], .agg (arC a q c p m)] w (PagesOut d a w) := by
 have HV := Lib.hid (fun W (e : Ext w W) => ValidG_anyW d a q c p m W (hv.ext e) h1 h2 h3)
 have Hout : Hid (∀ e w', PagesOut d a w e w' ↔ (Ext w w' ∧ ∃ v, e = .returned (.tuple #[v, .int .i64 (pagesE d a)]) ∧ w'.ownsRow w.heap.size 91 2 v (pagesD d a).length (wrC (pagesD d a)))) := Lib.hid (fun _ _ => Iff.rfl)
 cases hA : areaB d a
 · have HE : Hid (pagesE d a = 1 ∧ pagesD d a = []) := Lib.hid (by unfold pagesE pagesD; rw [hA]; exact ⟨rfl, rfl⟩)
   rw [hA] at HV
   generalize PagesOut d a w = OUT at *
   clear hA hv
   go_enter Tryz.func19, Tryz.ntmps19
   go_upto_region 1 with (fail)
   refine wp_name (fun w0 => Ext w w0 ∧ DsAt w0 w.heap.size d ∧ ArAt w0 (w.heap.size + 1) a q c p m) (ds_ar w d a q c p m) ?_
   rintro w0 ⟨he0, hd0, ha0⟩
   go_wp2_with (first
     | ((with_reducible (show wpList _ _ _ (⟨some 13, _, _, _, _, _⟩ :: _) _ _)); refine wpList_ds (o := ⟨some 13, _, _, _, _, _⟩) rfl (.tmp 2) rfl _ rfl d hd0 ?_)
     | ((with_reducible (show wpList _ _ _ (⟨some 14, _, _, _, _, _⟩ :: _) _ _)); refine wpList_row (o := ⟨some 14, _, _, _, _, _⟩) rfl 29 (.tmp 3) rfl _ rfl _ _ _ ha0 arDesc rfl arSize ?_)
     | (go_at_call 10; refine (HV.out _ he0).mono ?_; rintro e w1 ⟨rfl, he1⟩))
   exact (Hout.out _ _).2 ⟨he0.trans he1, _, by rw [HE.out.1]; rfl, by rw [HE.out.2]; exact World.ownsRow_nil _ _ _ _⟩
 · have I := area_iff.1 hA
   have HE : Hid (pagesE d a = 0 ∧ pagesD d a = refL d a) := Lib.hid (by unfold pagesE pagesD; rw [hA]; exact ⟨rfl, rfl⟩)
   rw [hA] at HV
   have hE0 : encNE d.interval a.nd = 0 := by
     unfold encNE
     rw [I.size, I.node, if_neg (by decide), if_neg (by have := I.fits; omega)]
   have HEn := Lib.hid (fun W (e : Ext w W) => EncodeN_any d.interval q c a.nd W (hv.ents.ext e) h1)
   have hES : encNS d.interval a.nd = encN d.interval a.nd := by unfold encNS; rw [if_pos hE0]
   rw [hE0, hES] at HEn
   have Hv := Lib.hid hv
   have HI := Lib.hid I
   have hk8 : d.area ≤ 8 := by obtain ⟨_, _, _, _, _, _, _, k8, k9⟩ := keyed_spec I.keyed; exact k9
   have hn8 : a.nd.ents.length ≤ 8 := by have := I.few; omega
   have hlen := I.len
   have HL := Lib.hid hlen
   have hn8' : a.ivs.length ≤ 8 := by omega
   have HP : Hid (pagesL d a = (a.base, encN d.interval a.nd) :: ivPages d a.nd.ents a.ivs) := Lib.hid rfl
   have HT := Lib.hid (fun k (hk : k < a.ivs.length) => pagesL_take (d := d) hlen hk)
   have hx4 := fun W (e : Ext w W) => hv.ext e
   generalize PagesOut d a w = OUT at *
   clear hA hv I hE0 hES hlen hx4
   generalize encN d.interval a.nd = en at *
   go_enter Tryz.func19, Tryz.ntmps19
   go_upto_region 1 with (fail)
   refine wp_name (fun w0 => Ext w w0 ∧ DsAt w0 w.heap.size d ∧ ArAt w0 (w.heap.size + 1) a q c p m) (ds_ar w d a q c p m) ?_
   rintro w0 ⟨he0, hd0, ha0⟩
   go_upto_region 4 with (first
     | ((with_reducible (show wpList _ _ _ (⟨some 13, _, _, _, _, _⟩ :: _) _ _)); refine wpList_ds (o := ⟨some 13, _, _, _, _, _⟩) rfl (.tmp 2) rfl _ rfl d hd0 ?_)
     | ((with_reducible (show wpList _ _ _ (⟨some 14, _, _, _, _, _⟩ :: _) _ _)); refine wpList_row (o := ⟨some 14, _, _, _, _, _⟩) rfl 29 (.tmp 3) rfl _ rfl _ _ _ ha0 arDesc rfl arSize ?_)
     | (go_at_call 10; refine (HV.out _ he0).mono ?_; rintro e w1 ⟨rfl, he1⟩; have hd1 := hd0.ext he1; have ha1 := ha0.ext he1; have e7 : w1.cell? ⟨w.heap.size, 7, none⟩ = some (.int .i64 d.interval) := Blk.val hd1 7 _ rfl; have ld := Blk.lt hd1)
     | ((with_reducible (show wpList _ _ _ (⟨some 21, _, _, _, _, _⟩ :: _) _ _)); refine wpList_part (o := ⟨some 21, _, _, _, _, _⟩) rfl 26 (.tmp 20) rfl (w.heap.size + 1) 1 rfl _ (arC a q c p m) #[.int .i64 a.nd.level, .int .i64 a.nd.next, .slice q a.nd.ents.length c] _ ha1 (ar_part a q c p m) ndDesc rfl ndSize ?_)
     | (go_at_call 49; refine (HEn.out _ (he0.trans he1)).mono ?_; rintro e w2 ⟨rfl, he2⟩))
   have Hd2 := Lib.hid (hd1.ext he2)
   have Ha2 := Lib.hid (ha1.ext he2)
   have Hx2 := Lib.hid ((he0.trans he1).trans he2)
   obtain ⟨f0, f1, f2, f3, f4, lf⟩ := Ha2.out.cells
   clear hd0 ha0 hd1 ha1 he0 he1 he2 e7 ld HV HEn
   go_upto_region 6 with (first
     | ((with_reducible (show wpList _ _ _ (⟨some 28, _, _, _, _, _⟩ :: _) _ _)); refine wpList_bld (o := ⟨some 28, _, _, _, _, _⟩) rfl 91 #[(0, .tmp 26), (1, .tmp 27)] rfl [(0, .int .i64 a.base), (1, .string ⟨en.toArray⟩)] rfl _ (wrBuilt _ _) ?_))
   have hB : w.heap.size + 1 < w2.heap.size := lf
   have Hb3 := Lib.hid (Blk.new w2 (.cells #[.int .i64 a.base, .string ⟨en.toArray⟩] 91))
   have Hx3 := Lib.hid (Ext.alloc w2 (.cells #[.int .i64 a.base, .string ⟨en.toArray⟩] 91))
   clear f0 f1 f2 f3 f4 lf
   go_loopw [7, 8, 33] (fun ev out i wr => ev = .int .i64 0 ∧ ∃ k : Nat, k ≤ a.ivs.length ∧ i = .int .i64 k ∧ wr.ownsRow w2.heap.size 91 2 out (k + 1) (wrC ((pagesL d a).take (k + 1))) ∧ Ext w2 wr) (fun _ _ i _ => a.ivs.length - (intOf i).toNat)
   case atStart => exact ⟨rfl, 0, Nat.zero_le _, rfl, by rw [HP.out]; exact own_of_blk (xs := [.int .i64 a.base, .string ⟨en.toArray⟩]) Hb3.out (Nat.le_refl _) rfl (by decide), Hx3.out⟩
   case round =>
     obtain ⟨rfl, k, hk, rfl, hown, hex⟩ := hrel
     have Hown := Lib.hid hown
     have Hex := Lib.hid hex
     obtain ⟨f0, f1, f2, f3, f4, lf⟩ := (Ha2.out.ext hex).cells
     have e7 : wr.cell? ⟨w.heap.size, 7, none⟩ = some (.int .i64 d.interval) := Blk.val (Hd2.out.ext hex) 7 _ rfl
     have ld := Blk.lt (Hd2.out.ext hex)
     by_cases hlt : k < a.ivs.length
     · have hltI : (k : Int) < a.ivs.length := by omega
       obtain ⟨ib, io, iv, rfl, hib, hcell, qi, ci, rfl, hrow, hr1, hr2, hr3⟩ := (Hv.out.ivs.ext (Hx2.out.trans hex)).at k hlt
       have hkE : k < a.nd.ents.length := by have := HL.out; omega
       obtain ⟨gb, go, rfl, hgb, hcc⟩ := (Hv.out.ents.ext (Hx2.out.trans hex)).at k hkE
       have HC : Hid (∀ W, Ext w2 W → W.cell? ⟨gb, go + k * 2 + 1, none⟩ = some (.int .i64 (entAt a.nd.ents k).2) ∧ gb < W.heap.size) := Lib.hid (fun W e => by
         obtain ⟨g', off', hq', hgb', hcc'⟩ := (Hv.out.ents.ext (Hx2.out.trans e)).at k hkE
         simp only [Option.some.injEq, Addr.mk.injEq, and_true] at hq'
         obtain ⟨rfl, rfl⟩ := hq'
         exact ⟨(hcc' k hkE).2, hgb'⟩)
       have HTk := Lib.hid (HT.out k hlt)
       have hsm := h3 k
       have hfit := fits_spec (HI.out.iv hlt).1
       have hE0 : encErr d.interval (a.ivs.getD k []) = 0 := by
         unfold encErr
         rw [hfit.1, hfit.2.1, if_neg (by decide), if_neg (by decide), if_neg (by omega)]
       have HFt : Hid (∀ W, Ext wr W → Calls Tryz.prog 50 #[.int .i64 d.interval, .slice qi (a.ivs.getD k []).length ci] W fun e w' => e = .returned (.tuple #[.string ⟨(encStr d.interval (a.ivs.getD k [])).toArray⟩, .int .i64 0]) ∧ Ext W w') := Lib.hid (fun W (e : Ext wr W) => by
         have := Encode_any qi ci _ (a.ivs.getD k []) d.interval W (hrow.ext e) rfl hr1 hr2 hsm
         rw [hE0] at this; exact this)
       clear hE0 hfit hsm hr3 hcc hown hex hrow hr1 hr2
       generalize a.ivs.getD k [] = L at *
       generalize encStr d.interval L = es at *
       generalize (entAt a.nd.ents k).2 = pg at *
       have hkI : (k : Int) < a.nd.ents.length := by omega
       go_upto_region 11 with (go_at_call 50; refine (HFt.out wr (Ext.refl wr)).mono ?_; rintro e w3 ⟨rfl, he3⟩)
       have Hx9 := Lib.hid (Hex.out.trans he3)
       obtain ⟨g0, g1, g2, g3, g4, lg⟩ := (Ha2.out.ext Hx9.out).cells
       obtain ⟨z1, z2⟩ := HC.out _ Hx9.out
       have Ho9 := Lib.hid (own_ext Hown.out he3)
       clear f0 f1 f2 f3 f4 lf e7 ld hcell hib he3 hgb
       go_wp2_with (first
         | ((with_reducible (show wpList _ _ _ (⟨some 57, _, _, _, _, _⟩ :: _) _ _)); refine wpList_bld (o := ⟨some 57, _, _, _, _, _⟩) rfl 91 #[(0, .tmp 55), (1, .tmp 56)] rfl [(0, .int .i64 pg), (1, .string ⟨es.toArray⟩)] rfl _ (wrBuilt _ _) ?_)
         | (at_builtin; refine wpList_appk (o := ⟨some 59, _, _, _, _, _⟩) rfl (.tmp 48) (.tmp 58) 51 91 rfl w2.heap.size (.agg #[.int .i64 0, .string ByteArray.empty]) 2 24 Tryz.underlying51 infoWr rfl (by decide) _ (k + 1) _ rfl (own_ext Ho9.out (Ext.alloc _ _)) (some ⟨w3.heap.size, 0, none⟩) 1 1 [.int .i64 pg, .string ⟨es.toArray⟩] rfl rfl rfl (blk_cells (ys := [.int .i64 pg, .string ⟨es.toArray⟩]) (Blk.new w3 _)) (by intro u hu; simp at hu; rcases hu with rfl | rfl <;> rfl) (by omega) (by decide) (Nat.le_trans Hx9.out.size (Ext.alloc _ _).size) ?_; intro v8 w8 ho8 hg8))
       have hoA := own_ext Ho9.out (Ext.alloc w3 (.cells [.int .i64 pg, .string ⟨es.toArray⟩].toArray 91))
       have hxA := Hx9.out.trans (Ext.alloc w3 (.cells [.int .i64 pg, .string ⟨es.toArray⟩].toArray 91))
       have Hx10 := Lib.hid (Ext.trans' hxA (Below.of_grown hg8 hoA (Nat.le_refl _) hxA.size))
       have Ho10 : Hid (w8.ownsRow w2.heap.size 91 2 v8 (k + 1 + 1) (wrC ((pagesL d a).take (k + 1 + 1)))) := Lib.hid (by rw [HTk.out, wrC_snoc]; exact ho8)
       clear hoA hxA ho8 hg8
       go_roundw
       case rel => exact ⟨rfl, k + 1, by omega, by go_num, Ho10.out, Hx10.out⟩
       case measure => simp [intOf]; omega
     · have hltI : decide ((k : Int) < a.ivs.length) = false := decide_eq_false (by omega)
       have hkn : k = a.ivs.length := by omega
       have hpl : (pagesL d a).length = k + 1 := by rw [HP.out, List.length_cons, ivPages_len HL.out, ← HL.out, hkn]
       rw [List.take_of_length_le (by omega)] at hown
       obtain ⟨qo, co, rfl⟩ := own_slice hown
       obtain ⟨gg, _, rfl, _, _, _, _, _, _⟩ := own_parts hown (by omega)
       obtain ⟨hrw, hrl, hrn, hrm, hrb⟩ := own_rowW hown
       have Hs := Lib.hid (SortFunc_any gg (co * 2) (k + 1) co (pagesL d a) wr hpl (by omega) hrw (by
         intro x hx
         have hb := HI.out.base
         unfold isBaseB at hb
         simp only [Bool.and_eq_true, decide_eq_true_eq] at hb
         rw [HP.out, List.mem_cons] at hx
         rcases hx with rfl | hx
         · exact ⟨by simp only; omega, by simp only; omega⟩
         · have := (area_nodup HI.out).2 x hx
           exact ⟨by omega, by omega⟩))
       have Hkn := Lib.hid (And.intro hkn (And.intro hpl (And.intro hrn (And.intro hrm hrb))))
       clear hown hrw hrl hpl f0 f1 f2 f3 f4 lf e7 ld hkn hrn hrm hrb hk
       go_wp2_with (go_at_call 51; refine Hs.out.mono ?_; rintro e w9 ⟨rfl, hg9, L', hp9, ho9, hr9⟩)
       obtain ⟨hkn, hpl, hrn, hrm, hrb⟩ := Hkn.out
       have hL := sorted_ref HI.out hp9 ho9
       subst hL
       have hx : Ext w w9 := Ext.trans' (Hx2.out.trans Hex.out) ((Below.refl _ wr).grown hg9 (Hx2.out.trans Hex.out).size fun x hx => by simp at hx; have := Hx2.out.size; omega)
       exact (Hout.out _ _).2 ⟨hx, _, by rw [HE.out.1]; rfl, by
         have hl9 : (refL d a).length = k + 1 := by rw [hp9.length_eq, hpl]
         rw [HE.out.2, hl9]
         exact rowW_own hr9 hl9 hrn hrm (by have := Hx2.out.size; omega)⟩
end Go.Proofs.YtifmbcjbccedfaaGreatDoor
namespace Dsd
end Dsd
namespace Go.Proofs.YtifmbcjbccedfaaGreatDoor
open Go.RowKit Dsd
end Go.Proofs.YtifmbcjbccedfaaGreatDoor
