/- The walk of area.Pages, at any area. -/
import Derived.Test.YtpefkjhiaflonaaGreatCB
import Derived.Test.YtpefkjhiaflonaaGreatCC
import Derived.Test.YtpefkjhiaflonaaGreatBN
import Derived.Test.YtpefkjhiaflonaaGreatW9
import Derived.Test.YtpefkjhiaflonaaGreatBA
set_option linter.unusedSimpArgs false
set_option linter.unusedVariables false
namespace Dsd
theorem ivPages_at {d : DS} {E : List Ent} {V : List Recs} (h : V.length = E.length) {k : Nat} (hk : k < V.length) : (ivPages d E V).take (k + 1) = (ivPages d E V).take k ++ [((entAt E k).2, encStr d.interval (V.getD k []))] := by
  have hl := ivPages_len (d := d) h
  rw [List.take_succ_eq_append_getElem (by omega)]
  congr 1
  simp [ivPages, entAt, List.getD, hk, show k < E.length by omega]
theorem pagesL_take {d : DS} {a : Ar} (h : a.ivs.length = a.nd.ents.length) {k : Nat} (hk : k < a.ivs.length) : (pagesL d a).take (k + 2) = (pagesL d a).take (k + 1) ++ [((entAt a.nd.ents k).2, encStr d.interval (a.ivs.getD k []))] := by
  unfold pagesL
  rw [List.take_succ_cons, List.take_succ_cons, ivPages_at h hk, List.cons_append]
end Dsd
namespace Go.Proofs.YtpefkjhiaflonaaGreat
open Go.RowKit Dsd
theorem infoWr : (Tryz.prog.info? 63).map (fun i => (i.zero, i.size, i.bytes)) = some (some (.agg #[.int .i64 0, .string ByteArray.empty]), 2, 24) := by kernel_rfl
theorem wrBuilt (k : Int) (s : ByteArray) : Tryz.prog.built 63 [(0, .int .i64 k), (1, .string s)] = some #[.int .i64 k, .string s] := by kernel_rfl
theorem own_rowW {w : World} {B g n c : Nat} {L : List Wr} (h : w.ownsRow B 63 2 (.slice (some ⟨g, 0, none⟩) n c) n (wrC L)) : RowW w g (c * 2) L ∧ L.length = n ∧ n ≤ c ∧ c ≤ maxLen ∧ B ≤ g := by
  have hl := h.1
  rw [wrC_len] at hl
  obtain ⟨_, ⟨h1, _⟩ | ⟨g', cap, cur, h1, h2, h3, h4, h5, h6, h7⟩⟩ := h
  · simp at h1
  · simp only [Value.slice.injEq, Option.some.injEq, Addr.mk.injEq, and_true] at h1
    obtain ⟨rfl, _, rfl⟩ := h1
    exact ⟨⟨cur, h3, h6, by rw [hl]; exact h7⟩, by omega, h4, h5, h2⟩
theorem rowW_own {w : World} {B g n c : Nat} {L : List Wr} (h : RowW w g (c * 2) L) (hl : L.length = n) (hn : n ≤ c) (hc : c ≤ maxLen) (hB : B ≤ g) : w.ownsRow B 63 2 (.slice (some ⟨g, 0, none⟩) n c) n (wrC L) := by
  obtain ⟨cur, h1, h2, h3⟩ := h
  exact ⟨by rw [wrC_len, hl], .inr ⟨g, c, cur, rfl, hB, h1, hn, hc, h2, by rw [← hl]; exact h3⟩⟩
/-- What Pages hands back. -/
def PagesOut (d : DS) (a : Ar) (w : World) (e : Ending) (w' : World) : Prop := Ext w w' ∧ ∃ v, e = .returned (.tuple #[v, .int .i64 (pagesE d a)]) ∧ w'.ownsRow w.heap.size 63 2 v (pagesD d a).length (wrC (pagesD d a))
set_option maxRecDepth 100000 in
set_option maxHeartbeats 4000000 in
theorem Pages_any (d : DS) (a : Ar) (q : Option Addr) (c : Nat) (p : Option Addr) (m : Nat) (w : World) (hv : ArW w a q c p m) (h1 : a.nd.ents.length ≤ 1000000) (h2 : a.ivs.length ≤ 1000000) (h3 : ∀ i, Small (a.ivs.getD i [])) :
    Calls Tryz.prog 8 #[.agg #[.int .i64 d.id, .int .i64 d.org, .int .i64 d.format, .int .i64 d.length, .int .i64 d.block, .int .i64 d.keyAt, .int .i64 d.keyLength, .int .i64 d.interval, .int .i64 d.area, .int .i64 d.freeInterval, .int .i64 d.freeArea, .int .i64 d.base, .int .i64 d.altAt, .int .i64 d.altLength, .bool d.unique, .int .i64 d.cls, .string ⟨d.volume.toArray⟩, .string ⟨d.owner.toArray⟩, .int .i64 d.created, .int .i64 d.expires, .bool d.archived], .agg (arC a q c p m)] w (PagesOut d a w) := by
  have HV := Lib.hid (fun W (e : Ext w W) => ValidG_anyW d a q c p m W (hv.ext e) h1 h2 h3)
  have Hout : Hid (∀ e w', PagesOut d a w e w' ↔ (Ext w w' ∧ ∃ v, e = .returned (.tuple #[v, .int .i64 (pagesE d a)]) ∧ w'.ownsRow w.heap.size 63 2 v (pagesD d a).length (wrC (pagesD d a)))) := Lib.hid (fun _ _ => Iff.rfl)
  cases hA : areaB d a
  · have HE : Hid (pagesE d a = 1 ∧ pagesD d a = []) := Lib.hid (by unfold pagesE pagesD; rw [hA]; exact ⟨rfl, rfl⟩)
    rw [hA] at HV
    generalize PagesOut d a w = OUT at *
    clear hA hv
    go_enter Tryz.func8, Tryz.ntmps8
    go_upto_region 1 with (fail)
    refine wp_name (fun w0 => Ext w w0 ∧ DsAt w0 w.heap.size d ∧ ArAt w0 (w.heap.size + 1) a q c p m) (ds_ar w d a q c p m) ?_
    rintro w0 ⟨he0, hd0, ha0⟩
    go_wp2_with (first
      | ((with_reducible (show wpList _ _ _ (⟨some 13, _, _, _, _, _⟩ :: _) _ _)); refine wpList_ds (o := ⟨some 13, _, _, _, _, _⟩) rfl (.tmp 2) rfl _ rfl d hd0 ?_)
      | ((with_reducible (show wpList _ _ _ (⟨some 14, _, _, _, _, _⟩ :: _) _ _)); refine wpList_row (o := ⟨some 14, _, _, _, _, _⟩) rfl 29 (.tmp 3) rfl _ rfl _ _ _ ha0 arDesc rfl arSize ?_)
      | (go_at_call 18; refine (HV.out _ he0).mono ?_; rintro e w1 ⟨rfl, he1⟩))
    exact (Hout.out _ _).2 ⟨he0.trans he1, _, by rw [HE.out.1]; rfl, by rw [HE.out.2]; exact World.ownsRow_nil _ _ _ _⟩
  · have I := area_iff.1 hA
    have HE : Hid (pagesE d a = 0 ∧ pagesD d a = refL d a) := Lib.hid (by unfold pagesE pagesD; rw [hA]; exact ⟨rfl, rfl⟩)
    rw [hA] at HV
    have hE0 : encNE d.interval a.nd = 0 := by
      unfold encNE
      rw [I.size, I.node, if_neg (by decide), if_neg (by have := I.fits; omega)]
    have HEn := Lib.hid (fun W (e : Ext w W) => EncodeN_any d.interval q c a.nd W (hv.ents.ext e) h1)
    have hES : encNS d.interval a.nd = encN d.interval a.nd := by unfold encNS; rw [if_pos hE0]
    rw [hE0, hES] at HEn
    have Hv := Lib.hid hv
    have HI := Lib.hid I
    have hk8 : d.area ≤ 8 := by obtain ⟨_, _, _, _, _, _, _, k8, k9⟩ := keyed_spec I.keyed; exact k9
    have hn8 : a.nd.ents.length ≤ 8 := by have := I.few; omega
    have hlen := I.len
    have HL := Lib.hid hlen
    have hn8' : a.ivs.length ≤ 8 := by omega
    have HP : Hid (pagesL d a = (a.base, encN d.interval a.nd) :: ivPages d a.nd.ents a.ivs) := Lib.hid rfl
    have HT := Lib.hid (fun k (hk : k < a.ivs.length) => pagesL_take (d := d) hlen hk)
    have hx4 := fun W (e : Ext w W) => hv.ext e
    generalize PagesOut d a w = OUT at *
    clear hA hv I hE0 hES hlen hx4
    generalize encN d.interval a.nd = en at *
    go_enter Tryz.func8, Tryz.ntmps8
    go_upto_region 1 with (fail)
    refine wp_name (fun w0 => Ext w w0 ∧ DsAt w0 w.heap.size d ∧ ArAt w0 (w.heap.size + 1) a q c p m) (ds_ar w d a q c p m) ?_
    rintro w0 ⟨he0, hd0, ha0⟩
    go_upto_region 4 with (first
      | ((with_reducible (show wpList _ _ _ (⟨some 13, _, _, _, _, _⟩ :: _) _ _)); refine wpList_ds (o := ⟨some 13, _, _, _, _, _⟩) rfl (.tmp 2) rfl _ rfl d hd0 ?_)
      | ((with_reducible (show wpList _ _ _ (⟨some 14, _, _, _, _, _⟩ :: _) _ _)); refine wpList_row (o := ⟨some 14, _, _, _, _, _⟩) rfl 29 (.tmp 3) rfl _ rfl _ _ _ ha0 arDesc rfl arSize ?_)
      | (go_at_call 18; refine (HV.out _ he0).mono ?_; rintro e w1 ⟨rfl, he1⟩; have hd1 := hd0.ext he1; have ha1 := ha0.ext he1; have e7 : w1.cell? ⟨w.heap.size, 7, none⟩ = some (.int .i64 d.interval) := Blk.val hd1 7 _ rfl; have ld := Blk.lt hd1)
      | ((with_reducible (show wpList _ _ _ (⟨some 21, _, _, _, _, _⟩ :: _) _ _)); refine wpList_part (o := ⟨some 21, _, _, _, _, _⟩) rfl 26 (.tmp 20) rfl (w.heap.size + 1) 1 rfl _ (arC a q c p m) #[.int .i64 a.nd.level, .int .i64 a.nd.next, .slice q a.nd.ents.length c] _ ha1 (ar_part a q c p m) ndDesc rfl ndSize ?_)
      | (go_at_call 26; refine (HEn.out _ (he0.trans he1)).mono ?_; rintro e w2 ⟨rfl, he2⟩))
    have Hd2 := Lib.hid (hd1.ext he2)
    have Ha2 := Lib.hid (ha1.ext he2)
    have Hx2 := Lib.hid ((he0.trans he1).trans he2)
    obtain ⟨f0, f1, f2, f3, f4, lf⟩ := Ha2.out.cells
    clear hd0 ha0 hd1 ha1 he0 he1 he2 e7 ld HV HEn
    go_upto_region 6 with (first
      | ((with_reducible (show wpList _ _ _ (⟨some 28, _, _, _, _, _⟩ :: _) _ _)); refine wpList_bld (o := ⟨some 28, _, _, _, _, _⟩) rfl 63 #[(0, .tmp 26), (1, .tmp 27)] rfl [(0, .int .i64 a.base), (1, .string ⟨en.toArray⟩)] rfl _ (wrBuilt _ _) ?_))
    have hB : w.heap.size + 1 < w2.heap.size := lf
    have Hb3 := Lib.hid (Blk.new w2 (.cells #[.int .i64 a.base, .string ⟨en.toArray⟩] 63))
    have Hx3 := Lib.hid (Ext.alloc w2 (.cells #[.int .i64 a.base, .string ⟨en.toArray⟩] 63))
    clear f0 f1 f2 f3 f4 lf
    go_loopw [7, 8, 33] (fun ev out i wr => ev = .int .i64 0 ∧ ∃ k : Nat, k ≤ a.ivs.length ∧ i = .int .i64 k ∧ wr.ownsRow w2.heap.size 63 2 out (k + 1) (wrC ((pagesL d a).take (k + 1))) ∧ Ext w2 wr) (fun _ _ i _ => a.ivs.length - (intOf i).toNat)
    case atStart => exact ⟨rfl, 0, Nat.zero_le _, rfl, by rw [HP.out]; exact own_of_blk (xs := [.int .i64 a.base, .string ⟨en.toArray⟩]) Hb3.out (Nat.le_refl _) rfl (by decide), Hx3.out⟩
    case round =>
      obtain ⟨rfl, k, hk, rfl, hown, hex⟩ := hrel
      have Hown := Lib.hid hown
      have Hex := Lib.hid hex
      obtain ⟨f0, f1, f2, f3, f4, lf⟩ := (Ha2.out.ext hex).cells
      have e7 : wr.cell? ⟨w.heap.size, 7, none⟩ = some (.int .i64 d.interval) := Blk.val (Hd2.out.ext hex) 7 _ rfl
      have ld := Blk.lt (Hd2.out.ext hex)
      by_cases hlt : k < a.ivs.length
      · have hltI : (k : Int) < a.ivs.length := by omega
        obtain ⟨ib, io, iv, rfl, hib, hcell, qi, ci, rfl, hrow, hr1, hr2, hr3⟩ := (Hv.out.ivs.ext (Hx2.out.trans hex)).at k hlt
        have hkE : k < a.nd.ents.length := by have := HL.out; omega
        obtain ⟨gb, go, rfl, hgb, hcc⟩ := (Hv.out.ents.ext (Hx2.out.trans hex)).at k hkE
        have HC : Hid (∀ W, Ext w2 W → W.cell? ⟨gb, go + k * 2 + 1, none⟩ = some (.int .i64 (entAt a.nd.ents k).2) ∧ gb < W.heap.size) := Lib.hid (fun W e => by
          obtain ⟨g', off', hq', hgb', hcc'⟩ := (Hv.out.ents.ext (Hx2.out.trans e)).at k hkE
          simp only [Option.some.injEq, Addr.mk.injEq, and_true] at hq'
          obtain ⟨rfl, rfl⟩ := hq'
          exact ⟨(hcc' k hkE).2, hgb'⟩)
        have HTk := Lib.hid (HT.out k hlt)
        have hsm := h3 k
        have hfit := fits_spec (HI.out.iv hlt).1
        have hE0 : encErr d.interval (a.ivs.getD k []) = 0 := by
          unfold encErr
          rw [hfit.1, hfit.2.1, if_neg (by decide), if_neg (by decide), if_neg (by omega)]
        have HFt : Hid (∀ W, Ext wr W → Calls Tryz.prog 27 #[.int .i64 d.interval, .slice qi (a.ivs.getD k []).length ci] W fun e w' => e = .returned (.tuple #[.string ⟨(encStr d.interval (a.ivs.getD k [])).toArray⟩, .int .i64 0]) ∧ Ext W w') := Lib.hid (fun W (e : Ext wr W) => by
          have := Encode_any qi ci _ (a.ivs.getD k []) d.interval W (hrow.ext e) rfl hr1 hr2 hsm
          rw [hE0] at this; exact this)
        clear hE0 hfit hsm hr3 hcc hown hex hrow hr1 hr2
        generalize a.ivs.getD k [] = L at *
        generalize encStr d.interval L = es at *
        generalize (entAt a.nd.ents k).2 = pg at *
        have hkI : (k : Int) < a.nd.ents.length := by omega
        go_upto_region 11 with (go_at_call 27; refine (HFt.out wr (Ext.refl wr)).mono ?_; rintro e w3 ⟨rfl, he3⟩)
        have Hx9 := Lib.hid (Hex.out.trans he3)
        obtain ⟨g0, g1, g2, g3, g4, lg⟩ := (Ha2.out.ext Hx9.out).cells
        obtain ⟨z1, z2⟩ := HC.out _ Hx9.out
        have Ho9 := Lib.hid (own_ext Hown.out he3)
        clear f0 f1 f2 f3 f4 lf e7 ld hcell hib he3 hgb
        go_wp2_with (first
          | ((with_reducible (show wpList _ _ _ (⟨some 57, _, _, _, _, _⟩ :: _) _ _)); refine wpList_bld (o := ⟨some 57, _, _, _, _, _⟩) rfl 63 #[(0, .tmp 55), (1, .tmp 56)] rfl [(0, .int .i64 pg), (1, .string ⟨es.toArray⟩)] rfl _ (wrBuilt _ _) ?_)
          | (at_builtin; refine wpList_appk (o := ⟨some 59, _, _, _, _, _⟩) rfl (.tmp 48) (.tmp 58) 35 63 rfl w2.heap.size (.agg #[.int .i64 0, .string ByteArray.empty]) 2 24 Tryz.underlying35 infoWr rfl (by decide) _ (k + 1) _ rfl (own_ext Ho9.out (Ext.alloc _ _)) (some ⟨w3.heap.size, 0, none⟩) 1 1 [.int .i64 pg, .string ⟨es.toArray⟩] rfl rfl rfl (blk_cells (ys := [.int .i64 pg, .string ⟨es.toArray⟩]) (Blk.new w3 _)) (by intro u hu; simp at hu; rcases hu with rfl | rfl <;> rfl) (by omega) (by decide) (Nat.le_trans Hx9.out.size (Ext.alloc _ _).size) ?_; intro v8 w8 ho8 hg8))
        have hoA := own_ext Ho9.out (Ext.alloc w3 (.cells [.int .i64 pg, .string ⟨es.toArray⟩].toArray 63))
        have hxA := Hx9.out.trans (Ext.alloc w3 (.cells [.int .i64 pg, .string ⟨es.toArray⟩].toArray 63))
        have Hx10 := Lib.hid (Ext.trans' hxA (Below.of_grown hg8 hoA (Nat.le_refl _) hxA.size))
        have Ho10 : Hid (w8.ownsRow w2.heap.size 63 2 v8 (k + 1 + 1) (wrC ((pagesL d a).take (k + 1 + 1)))) := Lib.hid (by rw [HTk.out, wrC_snoc]; exact ho8)
        clear hoA hxA ho8 hg8
        go_roundw
        case rel => exact ⟨rfl, k + 1, by omega, by go_num, Ho10.out, Hx10.out⟩
        case measure => simp [intOf]; omega
      · have hltI : decide ((k : Int) < a.ivs.length) = false := decide_eq_false (by omega)
        have hkn : k = a.ivs.length := by omega
        have hpl : (pagesL d a).length = k + 1 := by rw [HP.out, List.length_cons, ivPages_len HL.out, ← HL.out, hkn]
        rw [List.take_of_length_le (by omega)] at hown
        obtain ⟨qo, co, rfl⟩ := own_slice hown
        obtain ⟨gg, _, rfl, _, _, _, _, _, _⟩ := own_parts hown (by omega)
        obtain ⟨hrw, hrl, hrn, hrm, hrb⟩ := own_rowW hown
        have Hs := Lib.hid (SortFunc_any gg (co * 2) (k + 1) co (pagesL d a) wr hpl (by omega) hrw (by
          intro x hx
          have hb := HI.out.base
          unfold isBaseB at hb
          simp only [Bool.and_eq_true, decide_eq_true_eq] at hb
          rw [HP.out, List.mem_cons] at hx
          rcases hx with rfl | hx
          · exact ⟨by simp only; omega, by simp only; omega⟩
          · have := (area_nodup HI.out).2 x hx
            exact ⟨by omega, by omega⟩))
        have Hkn := Lib.hid (And.intro hkn (And.intro hpl (And.intro hrn (And.intro hrm hrb))))
        clear hown hrw hrl hpl f0 f1 f2 f3 f4 lf e7 ld hkn hrn hrm hrb hk
        go_wp2_with (go_at_call 28; refine Hs.out.mono ?_; rintro e w9 ⟨rfl, hg9, L', hp9, ho9, hr9⟩)
        obtain ⟨hkn, hpl, hrn, hrm, hrb⟩ := Hkn.out
        have hL := sorted_ref HI.out hp9 ho9
        subst hL
        have hx : Ext w w9 := Ext.trans' (Hx2.out.trans Hex.out) ((Below.refl _ wr).grown hg9 (Hx2.out.trans Hex.out).size fun x hx => by simp at hx; have := Hx2.out.size; omega)
        exact (Hout.out _ _).2 ⟨hx, _, by rw [HE.out.1]; rfl, by
          have hl9 : (refL d a).length = k + 1 := by rw [hp9.length_eq, hpl]
          rw [HE.out.2, hl9]
          exact rowW_own hr9 hl9 hrn hrm (by have := Hx2.out.size; omega)⟩
end Go.Proofs.YtpefkjhiaflonaaGreat
/- The walk of the reference's Pages, at any area. -/
namespace Dsd
theorem filter_snoc {L : List Wr} {k : Nat} {x : Wr} {p : Int} (h : L.take (k + 1) = L.take k ++ [x]) : (L.take (k + 1)).filter (fun y => y.1 == p) = (L.take k).filter (fun y => y.1 == p) ++ (if x.1 = p then [x] else []) := by
  rw [h, List.filter_append]
  congr 1
  by_cases e : x.1 = p
  · simp [e]
  · simp [e]
end Dsd
namespace Go.Proofs.YtpefkjhiaflonaaGreat
open Go.RowKit Dsd
set_option maxRecDepth 100000 in
set_option maxHeartbeats 4000000 in
theorem PagesR_any (d : DS) (a : Ar) (q : Option Addr) (c : Nat) (p : Option Addr) (m : Nat) (w : World) (hv : ArW w a q c p m) (h1 : a.nd.ents.length ≤ 1000000) (h2 : a.ivs.length ≤ 1000000) (h3 : ∀ i, Small (a.ivs.getD i [])) :
    Calls Tryz.prog 9 #[.agg #[.int .i64 d.id, .int .i64 d.org, .int .i64 d.format, .int .i64 d.length, .int .i64 d.block, .int .i64 d.keyAt, .int .i64 d.keyLength, .int .i64 d.interval, .int .i64 d.area, .int .i64 d.freeInterval, .int .i64 d.freeArea, .int .i64 d.base, .int .i64 d.altAt, .int .i64 d.altLength, .bool d.unique, .int .i64 d.cls, .string ⟨d.volume.toArray⟩, .string ⟨d.owner.toArray⟩, .int .i64 d.created, .int .i64 d.expires, .bool d.archived], .agg (arC a q c p m)] w (PagesOut d a w) := by
  have HV := Lib.hid (fun W (e : Ext w W) => ValidAR_anyW d a q c p m W (hv.ext e) h1 h2 h3)
  have Hout : Hid (∀ e w', PagesOut d a w e w' ↔ (Ext w w' ∧ ∃ v, e = .returned (.tuple #[v, .int .i64 (pagesE d a)]) ∧ w'.ownsRow w.heap.size 63 2 v (pagesD d a).length (wrC (pagesD d a)))) := Lib.hid (fun _ _ => Iff.rfl)
  cases hA : areaB d a
  · have HE : Hid (pagesE d a = 1 ∧ pagesD d a = []) := Lib.hid (by unfold pagesE pagesD; rw [hA]; exact ⟨rfl, rfl⟩)
    rw [hA] at HV
    generalize PagesOut d a w = OUT at *
    clear hA hv
    go_enter Tryz.func9, Tryz.ntmps9
    go_upto_region 1 with (fail)
    refine wp_name (fun w0 => Ext w w0 ∧ DsAt w0 w.heap.size d ∧ ArAt w0 (w.heap.size + 1) a q c p m) (ds_ar w d a q c p m) ?_
    rintro w0 ⟨he0, hd0, ha0⟩
    go_wp2_with (first
      | ((with_reducible (show wpList _ _ _ (⟨some 13, _, _, _, _, _⟩ :: _) _ _)); refine wpList_ds (o := ⟨some 13, _, _, _, _, _⟩) rfl (.tmp 2) rfl _ rfl d hd0 ?_)
      | ((with_reducible (show wpList _ _ _ (⟨some 14, _, _, _, _, _⟩ :: _) _ _)); refine wpList_row (o := ⟨some 14, _, _, _, _, _⟩) rfl 29 (.tmp 3) rfl _ rfl _ _ _ ha0 arDesc rfl arSize ?_)
      | (go_at_call 24; refine (HV.out _ he0).mono ?_; rintro e w1 ⟨rfl, he1⟩))
    exact (Hout.out _ _).2 ⟨he0.trans he1, _, by rw [HE.out.1]; rfl, by rw [HE.out.2]; exact World.ownsRow_nil _ _ _ _⟩
  · have I := area_iff.1 hA
    have HE : Hid (pagesE d a = 0 ∧ pagesD d a = (a.base, encN d.interval a.nd) :: refTo d a d.area.toNat) := Lib.hid (by unfold pagesE pagesD; rw [hA]; exact ⟨rfl, rfl⟩)
    rw [hA] at HV
    have hE0 : encNE d.interval a.nd = 0 := by
      unfold encNE
      rw [I.size, I.node, if_neg (by decide), if_neg (by have := I.fits; omega)]
    have HEn := Lib.hid (fun W (e : Ext w W) => EncodeR_any d.interval q c a.nd W (hv.ents.ext e) h1)
    have hES : encNS d.interval a.nd = encN d.interval a.nd := by unfold encNS; rw [if_pos hE0]
    rw [hE0, hES] at HEn
    have Hv := Lib.hid hv
    obtain ⟨ar, har, har8⟩ : ∃ ar : Nat, d.area = (ar : Int) ∧ ar ≤ 8 := by
      obtain ⟨_, _, _, _, _, _, _, k8, k9⟩ := keyed_spec I.keyed
      exact ⟨d.area.toNat, by omega, by omega⟩
    have hart : d.area.toNat = ar := by omega
    rw [hart] at HE
    have Har := Lib.hid har
    have HL := Lib.hid I.len
    have hbb : 1 ≤ a.base ∧ a.base ≤ 16777208 := by
      have hb := I.base
      unfold isBaseB at hb
      simpa only [Bool.and_eq_true, decide_eq_true_eq] using hb
    have hl8 : a.ivs.length ≤ 8 := by have := I.few; have := I.len; omega
    have hpl8 : (ivPages d a.nd.ents a.ivs).length ≤ 8 := by rw [ivPages_len I.len]; have := I.few; omega
    have HSt := Lib.hid (fun k (hk : k < a.ivs.length) => ivPages_at (d := d) I.len hk)
    have HRow : Hid (∀ pg, refRow d a.nd.ents a.ivs pg = ((ivPages d a.nd.ents a.ivs).take a.ivs.length).filter fun y => y.1 == pg) := Lib.hid (fun pg => by rw [List.take_of_length_le (by rw [ivPages_len I.len, I.len]; exact Nat.le_refl _)]; rfl)
    have HTl : Hid (∀ t, (refTo d a t).length ≤ t * 8) := Lib.hid (fun t => by
      induction t with
      | zero => simp [refTo]
      | succ t ih =>
        rw [refTo_succ, List.length_append]
        have := (ref_row_sub d a.nd.ents a.ivs (a.base + 1 + (t : Int))).length_le
        omega)
    generalize PagesOut d a w = OUT at *
    clear hA hv I hE0 hES har hart
    generalize encN d.interval a.nd = en at *
    go_enter Tryz.func9, Tryz.ntmps9
    go_upto_region 1 with (fail)
    refine wp_name (fun w0 => Ext w w0 ∧ DsAt w0 w.heap.size d ∧ ArAt w0 (w.heap.size + 1) a q c p m) (ds_ar w d a q c p m) ?_
    rintro w0 ⟨he0, hd0, ha0⟩
    go_upto_region 4 with (first
      | ((with_reducible (show wpList _ _ _ (⟨some 13, _, _, _, _, _⟩ :: _) _ _)); refine wpList_ds (o := ⟨some 13, _, _, _, _, _⟩) rfl (.tmp 2) rfl _ rfl d hd0 ?_)
      | ((with_reducible (show wpList _ _ _ (⟨some 14, _, _, _, _, _⟩ :: _) _ _)); refine wpList_row (o := ⟨some 14, _, _, _, _, _⟩) rfl 29 (.tmp 3) rfl _ rfl _ _ _ ha0 arDesc rfl arSize ?_)
      | (go_at_call 24; refine (HV.out _ he0).mono ?_; rintro e w1 ⟨rfl, he1⟩; have hd1 := hd0.ext he1; have ha1 := ha0.ext he1; have e7 : w1.cell? ⟨w.heap.size, 7, none⟩ = some (.int .i64 d.interval) := Blk.val hd1 7 _ rfl; have ld := Blk.lt hd1)
      | ((with_reducible (show wpList _ _ _ (⟨some 21, _, _, _, _, _⟩ :: _) _ _)); refine wpList_part (o := ⟨some 21, _, _, _, _, _⟩) rfl 26 (.tmp 20) rfl (w.heap.size + 1) 1 rfl _ (arC a q c p m) #[.int .i64 a.nd.level, .int .i64 a.nd.next, .slice q a.nd.ents.length c] _ ha1 (ar_part a q c p m) ndDesc rfl ndSize ?_)
      | (go_at_call 30; refine (HEn.out _ (he0.trans he1)).mono ?_; rintro e wE ⟨rfl, he2⟩))
    have Hd2 := Lib.hid (hd1.ext he2)
    have Ha2 := Lib.hid (ha1.ext he2)
    have Hx2 := Lib.hid ((he0.trans he1).trans he2)
    obtain ⟨f0, f1, f2, f3, f4, lf⟩ := Ha2.out.cells
    clear hd0 ha0 hd1 ha1 he0 he1 he2 e7 ld HV HEn
    go_upto_region 6 with (first
      | ((with_reducible (show wpList _ _ _ (⟨some 28, _, _, _, _, _⟩ :: _) _ _)); refine wpList_bld (o := ⟨some 28, _, _, _, _, _⟩) rfl 63 #[(0, .tmp 26), (1, .tmp 27)] rfl [(0, .int .i64 a.base), (1, .string ⟨en.toArray⟩)] rfl _ (wrBuilt _ _) ?_))
    have hB : w.heap.size + 1 < wE.heap.size := lf
    have Hb3 := Lib.hid (Blk.new wE (.cells #[.int .i64 a.base, .string ⟨en.toArray⟩] 63))
    have Hx3 := Lib.hid (Ext.alloc wE (.cells #[.int .i64 a.base, .string ⟨en.toArray⟩] 63))
    clear f0 f1 f2 f3 f4 lf
    go_loopw [8, 9] (fun out pv wr => ∃ t : Nat, t ≤ ar ∧ pv = .int .i64 (a.base + 1 + (t : Int)) ∧ wr.ownsRow wE.heap.size 63 2 out (1 + (refTo d a t).length) (wrC ((a.base, en) :: refTo d a t)) ∧ Ext wE wr) (fun _ pv _ => (a.base + 20 - intOf pv).toNat)
    case atStart => exact ⟨0, Nat.zero_le _, by go_num, own_of_blk (xs := [.int .i64 a.base, .string ⟨en.toArray⟩]) Hb3.out (Nat.le_refl _) rfl (by decide), Hx3.out⟩
    case round =>
      obtain ⟨t, ht, rfl, hown, hex⟩ := hrel
      have Hown := Lib.hid hown
      have Hex := Lib.hid hex
      obtain ⟨f0, f1, f2, f3, f4, lf⟩ := (Ha2.out.ext hex).cells
      have e8 : wr.cell? ⟨w.heap.size, 8, none⟩ = some (.int .i64 d.area) := Blk.val (Hd2.out.ext hex) 8 _ rfl
      rw [Har.out] at e8
      have ld := Blk.lt (Hd2.out.ext hex)
      have hTl := HTl.out t
      by_cases hlt : t < ar
      · have hltI : decide (a.base + 1 + (t : Int) ≤ a.base + ar) = true := decide_eq_true (by omega)
        clear hown hex
        go_upto_region 9 with (fail)
        obtain ⟨PG, hPG⟩ : ∃ PG, PG = a.base + 1 + (t : Int) := ⟨_, rfl⟩
        rw [← hPG]
        have HPG := Lib.hid hPG
        have HRt : Hid (refTo d a (t + 1) = refTo d a t ++ ((ivPages d a.nd.ents a.ivs).take a.ivs.length).filter fun y => y.1 == PG) := Lib.hid (by rw [refTo_succ, ← hPG, HRow.out])
        have hpgb : 1 ≤ PG ∧ PG ≤ 20000000 := by omega
        have HF : Hid (∀ k, (((ivPages d a.nd.ents a.ivs).take k).filter fun y => y.1 == PG).length ≤ 8) := Lib.hid (fun k => Nat.le_trans (List.length_filter_le _ _) (by rw [List.length_take]; omega))
        have hlt' := Lib.hid hlt
        clear hPG hltI f0 f1 f2 f3 f4 lf e8 ld hlt
        generalize refTo d a t = RT at *
        go_loopw [8, 10] (fun out i wr => ∃ k : Nat, k ≤ a.ivs.length ∧ i = .int .i64 k ∧ wr.ownsRow wE.heap.size 63 2 out (1 + RT.length + (((ivPages d a.nd.ents a.ivs).take k).filter fun y => y.1 == PG).length) (wrC ((a.base, en) :: RT ++ ((ivPages d a.nd.ents a.ivs).take k).filter fun y => y.1 == PG)) ∧ Ext wE wr) (fun _ i _ => a.ivs.length - (intOf i).toNat)
        case atStart => exact ⟨0, Nat.zero_le _, rfl, by simpa using Hown.out, Hex.out⟩
        case round =>
          obtain ⟨k, hk, rfl, hown, hex⟩ := hrel
          have Hown := Lib.hid hown
          have Hex := Lib.hid hex
          obtain ⟨f0, f1, f2, f3, f4, lf⟩ := (Ha2.out.ext hex).cells
          have e7 : wr.cell? ⟨w.heap.size, 7, none⟩ = some (.int .i64 d.interval) := Blk.val (Hd2.out.ext hex) 7 _ rfl
          have ld := Blk.lt (Hd2.out.ext hex)
          by_cases hlt : k < a.ivs.length
          · have hltI : (k : Int) < a.ivs.length := by omega
            obtain ⟨ib, io, iv, rfl, hib, hcell, qi, ci, rfl, hrow, hr1, hr2, hr3⟩ := (Hv.out.ivs.ext (Hx2.out.trans hex)).at k hlt
            have hkE : k < a.nd.ents.length := by have := HL.out; omega
            have hkI : (k : Int) < a.nd.ents.length := by omega
            obtain ⟨gb, go, rfl, hgb, hcc⟩ := (Hv.out.ents.ext (Hx2.out.trans hex)).at k hkE
            have hc1 := (hcc k hkE).2
            have HTk := Lib.hid (filter_snoc (p := PG) (HSt.out k hlt))
            have hsm := h3 k
            have HFt : Hid (∀ W, Ext wr W → Calls Tryz.prog 31 #[.int .i64 d.interval, .slice qi (a.ivs.getD k []).length ci] W fun e w' => e = .returned (.tuple #[.string ⟨(encStr d.interval (a.ivs.getD k [])).toArray⟩, .int .i64 (encErr d.interval (a.ivs.getD k []))]) ∧ Ext W w') := Lib.hid (fun W (e : Ext wr W) => Encode_ref qi ci _ (a.ivs.getD k []) d.interval W (hrow.ext e) rfl hsm)
            have hFk := HF.out k
            clear hsm hr3 hcc hown hex hrow hr1 hr2
            generalize encErr d.interval (a.ivs.getD k []) = ec at *
            generalize a.ivs.getD k [] = L at *
            generalize encStr d.interval L = es at *
            generalize (entAt a.nd.ents k).2 = pg at *
            generalize hFl : ((ivPages d a.nd.ents a.ivs).take (k + 1)).filter (fun y => y.1 == PG) = F1 at *
            generalize hFl0 : ((ivPages d a.nd.ents a.ivs).take k).filter (fun y => y.1 == PG) = F0 at *
            by_cases hpg : pg = PG
            · have i1 : (pg == PG) = true := by rw [hpg]; simp
              have HT1 : Hid (F1 = F0 ++ [(PG, es)]) := Lib.hid (by rw [HTk.out, if_pos hpg, hpg])
              have Hpg := Lib.hid hpg
              clear hpg
              go_upto_region 12 with (fail)
              refine wp_region_mk 200 (Ext.refl wr) (by kernel_rfl) (by kernel_rfl) (by kernel_rfl) ?_
              simp only [List.take_succ_cons, List.take_zero, List.take_nil, List.drop_succ_cons, List.drop_zero, List.drop_nil, List.map_cons, List.map_nil]
              repeat (first
                | (refine wpML_move _ _ rfl (by first | exact .inl rfl | exact .inr rfl) rfl (by first | exact Is.stable _ | exact Fresh.stable _ _ _) ?_
                   simp only [setL, List.set_cons_succ, List.set_cons_zero, List.getD_cons_succ, List.getD_cons_zero])
                | (refine wpML_moveC _ rfl (by first | exact .inl rfl | exact .inr rfl) ?_
                   simp only [setL, List.set_cons_succ, List.set_cons_zero])
                | (apply wpML_det rfl
                   · intro a w' he hr K hK
                     simp [Reads, Oper.looksAt, Op.operands, Call.operands, factAt, Is] at hr
                     have hx := he.cell
                     go_simp
                     try go_bits
                     try (rw [if_neg (by omega)]; go_simp)
                     first
                       | exact hK _ (Ext.refl _)
                   simp only [setL, List.set_cons_succ, List.set_cons_zero])
                | (refine wpML_det (o := ⟨some 66, _, _, _, _, _⟩) (v := .tuple #[.string ⟨es.toArray⟩, .int .i64 ec]) rfl ?_ ?_
                   · intro a w' he hr K hK
                     simp [Reads, Oper.looksAt, Op.operands, Call.operands, factAt, Is] at hr
                     go_simp
                     refine (HFt.out _ he).mono ?_
                     rintro e w'' ⟨rfl, he''⟩
                     exact hK _ he''
                   simp only [setL, List.set_cons_succ, List.set_cons_zero])
                | (apply wpML_det rfl
                   · intro a w' he hr K hK
                     simp [Reads, Oper.looksAt, Op.operands, Call.operands, factAt, Fresh] at hr
                     obtain ⟨b, hr1, hr2⟩ := hr
                     go_simp
                     exact hK _ (Ext.refl _)
                   simp only [setL, List.set_cons_succ, List.set_cons_zero]))
              intro w2 he2
              repeat (first | with_reducible refine rest_is _ _ _ _ ?_ | (with_reducible refine rest_fact _ _ _ _ ?_; intro _ _) | with_reducible refine rest_end _ _ ?_)
              simp only [List.reverse_cons, List.reverse_nil, List.nil_append, List.cons_append]
              have Hx9 := Lib.hid (Hex.out.trans he2)
              have Ho9 := Lib.hid (own_ext Hown.out he2)
              clear he2 f0 f1 f2 f3 f4 lf e7 ld hcell hib hgb hc1
              go_wp2_with (first
                | ((with_reducible (show wpList _ _ _ (⟨some 72, _, _, _, _, _⟩ :: _) _ _)); refine wpList_bld (o := ⟨some 72, _, _, _, _, _⟩) rfl 63 #[(0, .tmp 70), (1, .tmp 71)] rfl [(0, .int .i64 PG), (1, .string ⟨es.toArray⟩)] rfl _ (wrBuilt _ _) ?_)
                | (at_builtin; refine wpList_appk (o := ⟨some 74, _, _, _, _, _⟩) rfl (.tmp 69) (.tmp 73) 35 63 rfl wE.heap.size (.agg #[.int .i64 0, .string ByteArray.empty]) 2 24 Tryz.underlying35 infoWr rfl (by decide) _ (1 + RT.length + F0.length) _ rfl (own_ext Ho9.out (Ext.alloc _ _)) (some ⟨w2.heap.size, 0, none⟩) 1 1 [.int .i64 PG, .string ⟨es.toArray⟩] rfl rfl rfl (blk_cells (ys := [.int .i64 PG, .string ⟨es.toArray⟩]) (Blk.new w2 _)) (by intro u hu; simp at hu; rcases hu with rfl | rfl <;> rfl) (by omega) (by decide) (Nat.le_trans Hx9.out.size (Ext.alloc _ _).size) ?_; intro v8 w8 ho8 hg8))
              have hoA := own_ext Ho9.out (Ext.alloc w2 (.cells [.int .i64 PG, .string ⟨es.toArray⟩].toArray 63))
              have hxA := Hx9.out.trans (Ext.alloc w2 (.cells [.int .i64 PG, .string ⟨es.toArray⟩].toArray 63))
              have Hx10 := Lib.hid (Ext.trans' hxA (Below.of_grown hg8 hoA (Nat.le_refl _) hxA.size))
              have Ho10 : Hid (w8.ownsRow wE.heap.size 63 2 v8 (1 + RT.length + F1.length) (wrC ((a.base, en) :: RT ++ F1))) := Lib.hid (by
                rw [HT1.out, ← List.append_assoc, wrC_snoc, List.length_append]
                exact ho8)
              clear hoA hxA ho8 hg8
              go_roundw
              case rel => exact ⟨k + 1, by omega, by go_num, by rw [hFl]; exact Ho10.out, Hx10.out⟩
              case measure => simp [intOf]; omega
            · have i1 : (pg == PG) = false := by simpa using hpg
              have HT1 : Hid (F1 = F0) := Lib.hid (by rw [HTk.out, if_neg hpg, List.append_nil])
              clear hpg
              go_wp2
              go_roundw
              case rel => exact ⟨k + 1, by omega, by go_num, by rw [hFl, HT1.out]; exact Hown.out, Hex.out⟩
              case measure => simp [intOf]; omega
          · have hltI : decide ((k : Int) < a.ivs.length) = false := decide_eq_false (by omega)
            have hkn : k = a.ivs.length := by omega
            have Hfin : Hid (1 + RT.length + (((ivPages d a.nd.ents a.ivs).take k).filter fun y => y.1 == PG).length = 1 + (refTo d a (t + 1)).length ∧ (a.base, en) :: RT ++ ((ivPages d a.nd.ents a.ivs).take k).filter (fun y => y.1 == PG) = (a.base, en) :: refTo d a (t + 1)) := Lib.hid (by
              rw [HRt.out, hkn, List.length_append]
              exact ⟨by omega, rfl⟩)
            have Hno : Hid (wr.ownsRow wE.heap.size 63 2 u8 (1 + (refTo d a (t + 1)).length) (wrC ((a.base, en) :: refTo d a (t + 1)))) := Lib.hid (by rw [← Hfin.out.1, ← Hfin.out.2]; exact hown)
            clear hown hkn
            go_wp2
            go_roundw
            case rel => exact ⟨t + 1, by have := hlt'.out; omega, by rw [HPG.out]; go_num, Hno.out, hex⟩
            case measure => simp [intOf]; have := HPG.out; omega
      · have hltI : decide (a.base + 1 + (t : Int) ≤ a.base + ar) = false := decide_eq_false (by omega)
        have hta : t = ar := by omega
        have Hfo : Hid (OUT (.returned (.tuple #[u8, .int .i64 0])) wr) := Lib.hid ((Hout.out _ _).2 ⟨Hx2.out.trans hex, u8, by rw [HE.out.1], by
          rw [HE.out.2, ← hta, List.length_cons, Nat.add_comm]
          exact own_le hown Hx2.out.size⟩)
        clear hown hex hta
        go_wp2
        exact Hfo.out
end Go.Proofs.YtpefkjhiaflonaaGreat
