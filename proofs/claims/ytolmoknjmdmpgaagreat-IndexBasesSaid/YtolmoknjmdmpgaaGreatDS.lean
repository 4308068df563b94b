/- The walk of the reference's Bounds, of trees. -/
import Derived.Test.YtolmoknjmdmpgaaGreatDR
set_option linter.unusedSimpArgs false
set_option linter.unusedVariables false
namespace Go.Proofs.YtolmoknjmdmpgaaGreat
open Go.RowKit Dsd
set_option maxRecDepth 100000 in
set_option maxHeartbeats 4000000 in
theorem BoundsR_any (p : Option Addr) (cap n : Nat) (m : List (List UInt8)) (h : Hd) (d : DS) (key : List UInt8) (w : World) (hs : Strs w p m) (hn : m.length = n) (hm : Small m) :
    Calls Tryz.prog 12 #[.slice p n cap, .agg #[.int .i64 h.applied, .int .i64 h.count, .int .i64 h.fin, .int .i64 h.root, .int .i64 h.height, .int .i64 h.splits, .int .i64 h.areas], .agg #[.int .i64 d.id, .int .i64 d.org, .int .i64 d.format, .int .i64 d.length, .int .i64 d.block, .int .i64 d.keyAt, .int .i64 d.keyLength, .int .i64 d.interval, .int .i64 d.area, .int .i64 d.freeInterval, .int .i64 d.freeArea, .int .i64 d.base, .int .i64 d.altAt, .int .i64 d.altLength, .bool d.unique, .int .i64 d.cls, .string ⟨d.volume.toArray⟩, .string ⟨d.owner.toArray⟩, .int .i64 d.created, .int .i64 d.expires, .bool d.archived], .string ⟨key.toArray⟩] w (BndOut m h d key w) := by
  have hdd := hd_ds w h d
  by_cases hE : locE m h d key = 0
  · have hz : door22 h d = 0 := by
      by_cases h1 : door22 h d = 0
      · exact h1
      · unfold locE at hE; rw [if_pos h1] at hE; cases hE
    have hlE : locE m h d key = erTo m h d key h.height.toNat := by unfold locE; rw [if_neg (by rw [hz]; simp)]
    have her := hlE.symm.trans hE
    have HYes := Lib.hid (fun e w' => bnd_yes (m := m) (h := h) (d := d) (key := key) (w := w) (w' := w') (e := e) hz her)
    have hlL : locL m h d key = pathTo m h d key h.height.toNat := by unfold locL; rw [if_pos hE]
    obtain ⟨k1, k2, k3, k4, k5, k6, k7⟩ := door22_zero hz
    obtain ⟨H, hH⟩ : ∃ H : Nat, h.height = H := ⟨h.height.toNat, by omega⟩
    have hHn : h.height.toNat = H := by omega
    rw [hHn] at her hlL HYes
    have HLo : Hid (∀ W, Strs W p m → Calls Tryz.prog 10 #[.slice p n cap, .agg #[.int .i64 h.applied, .int .i64 h.count, .int .i64 h.fin, .int .i64 h.root, .int .i64 h.height, .int .i64 h.splits, .int .i64 h.areas], .agg #[.int .i64 d.id, .int .i64 d.org, .int .i64 d.format, .int .i64 d.length, .int .i64 d.block, .int .i64 d.keyAt, .int .i64 d.keyLength, .int .i64 d.interval, .int .i64 d.area, .int .i64 d.freeInterval, .int .i64 d.freeArea, .int .i64 d.base, .int .i64 d.altAt, .int .i64 d.altLength, .bool d.unique, .int .i64 d.cls, .string ⟨d.volume.toArray⟩, .string ⟨d.owner.toArray⟩, .int .i64 d.created, .int .i64 d.expires, .bool d.archived], .string ⟨key.toArray⟩] W fun e w' => Ext W w' ∧ ∃ q c, e = .returned (.tuple #[.slice q (H + 1) c, .int .i64 0]) ∧ w'.ownsRow 0 3 1 (.slice q (H + 1) c) (H + 1) (intC (pathTo m h d key H))) := Lib.hid (fun W hs' => (LocateR_any p cap n m h d key W hs' hn hm).mono (by
      rintro e w' ⟨a1, q, c, a2, a3⟩
      rw [hlL, pathTo_len] at a2 a3
      rw [hE] at a2
      exact ⟨a1, q, c, a2, own_le a3 (Nat.zero_le _)⟩))
    have HL := Lib.hid (fun page level W (hh : Strs W p m) => LoadR22_any p cap n m d page level W hh hn hm)
    have Hs := Lib.hid hs
    have HH := Lib.hid hH
    have Her := Lib.hid her
    have hH6 : H ≤ 6 := by omega
    clear hs hz k1 k2 k3 k4 k5 k6 k7 hHn hlE hE her hlL hH
    generalize BndOut m h d key w = OUT at *
    go_enter Tryz.func12, Tryz.ntmps12
    go_upto_region 1 with (fail)
    refine wp_name (fun w0 => Ext w w0 ∧ HdAt w0 w.heap.size h ∧ DsAt w0 (w.heap.size + 1) d) hdd ?_
    clear hdd
    rintro w0 ⟨he0, hb1, hb2⟩
    go_upto_region 4 with (first
      | ((with_reducible (show wpList _ _ _ (⟨some 22, _, _, _, _, _⟩ :: _) _ _)); refine wpList_hd (o := ⟨some 22, _, _, _, _, _⟩) rfl (.tmp 5) rfl _ rfl h hb1 ?_)
      | ((with_reducible (show wpList _ _ _ (⟨some 23, _, _, _, _, _⟩ :: _) _ _)); refine wpList_ds (o := ⟨some 23, _, _, _, _, _⟩) rfl (.tmp 6) rfl _ rfl d hb2 ?_)
      | (go_at_call 10; refine (HLo.out _ (Hs.out.ext he0)).mono ?_; rintro e w1 ⟨he1, q, c, rfl, ho1⟩))
    have hb11 := hb1.ext he1
    have hb21 := hb2.ext he1
    have hx1 := he0.trans he1
    go_upto_region 6 with (fail)
    go_loopw [13, 14, 15] (fun lo hi i wr => ∃ j : Nat, j ≤ H ∧ i = .int .i64 j ∧ lo = .string ⟨(lowTo m h d key j).toArray⟩ ∧ hi = .string ⟨(highTo m h d key j).toArray⟩ ∧ Ext w wr ∧ HdAt wr w.heap.size h ∧ DsAt wr (w.heap.size + 1) d ∧ wr.ownsRow 0 3 1 (.slice q (H + 1) c) (H + 1) (intC (pathTo m h d key H))) (fun _ _ i _ => H - (intOf i).toNat)
    case atStart => exact ⟨0, Nat.zero_le _, rfl, rfl, rfl, hx1, hb11, hb21, ho1⟩
    case round =>
      clear he0 he1 hb1 hb2 hb11 hb21 hx1 ho1
      obtain ⟨j, hj, rfl, rfl, rfl, hx, hhd, hds, hown⟩ := hrel
      have c4 : wr.cell? ⟨w.heap.size, 4, none⟩ = some (.int .i64 h.height) := Blk.val hhd 4 _ rfl
      rw [HH.out] at c4
      have l4 := Blk.lt hhd
      by_cases hlt2 : j < H
      · have hlv : h.height - (j : Int) = (H : Int) - (j : Int) := by have := HH.out; omega
        have hL := HL.out (pgAt m h d key j) ((H : Int) - (j : Int))
        have hnd : ndAt m h d key j = (loadD m d (pgAt m h d key j) ((H : Int) - (j : Int))).1 := by unfold ndAt; rw [hlv]
        have hea : erAt m h d key j = (loadD m d (pgAt m h d key j) ((H : Int) - (j : Int))).2 := by unfold erAt; rw [hlv]
        have he0 : erAt m h d key j = 0 := erTo_zero Her.out hlt2
        unfold Load22 at hL
        rw [← hnd, ← hea, he0] at hL
        have HLd : Hid (∀ W, Ext wr W → Calls Tryz.prog 30 #[.slice p n cap, .agg #[.int .i64 d.id, .int .i64 d.org, .int .i64 d.format, .int .i64 d.length, .int .i64 d.block, .int .i64 d.keyAt, .int .i64 d.keyLength, .int .i64 d.interval, .int .i64 d.area, .int .i64 d.freeInterval, .int .i64 d.freeArea, .int .i64 d.base, .int .i64 d.altAt, .int .i64 d.altLength, .bool d.unique, .int .i64 d.cls, .string ⟨d.volume.toArray⟩, .string ⟨d.owner.toArray⟩, .int .i64 d.created, .int .i64 d.expires, .bool d.archived], .int .i64 (pgAt m h d key j), .int .i64 ((H : Int) - (j : Int))] W fun e w' => Ext W w' ∧ ∃ q c, e = .returned (.tuple #[.agg #[.int .i64 (ndAt m h d key j).level, .int .i64 (ndAt m h d key j).next, .slice q (ndAt m h d key j).ents.length c], .int .i64 0]) ∧
            w'.ownsRow 0 75 2 (.slice q (ndAt m h d key j).ents.length c) (ndAt m h d key j).ents.length (entCells (ndAt m h d key j).ents)) := Lib.hid (fun W e => (hL W (Hs.out.ext (hx.trans e))).mono (fun e' w' ⟨a1, q, c, a2, a3⟩ => ⟨a1, q, c, a2, own_le a3 (Nat.zero_le _)⟩))
        obtain ⟨pb, off, hq0, hpb, hcell⟩ := (path_ints hown).at j (by rw [pathTo_len]; omega)
        subst hq0
        have hcj := hcell j (by rw [pathTo_len]; omega)
        rw [pathTo_at m h d key H hj] at hcj
        have hw1 : IntKind.i64.wrap ((H : Int) - (j : Int)) = (H : Int) - (j : Int) := IntWalk.i64_in _ (by omega)
        have hjI : (j : Int) < ((H + 1 : Nat) : Int) := by omega
        have hjI2 : (j : Int) < (H : Int) + 1 := by omega
        have hltI : (j : Int) < (H : Int) := by omega
        have HQ := Lib.hid (And.intro hx (And.intro hhd (And.intro hds hown)))
        have Hds := Lib.hid hds
        have hld := Blk.lt hds
        have hsp : NSpec (ndAt m h d key j) := by
          rw [hnd]; exact (load_spec (by rw [← hea]; exact he0)).1
        have hne : (ndAt m h d key j).ents ≠ [] := by have := hsp.l1; intro h9; rw [h9] at this; simp at this
        have hfl := find_lt key hne
        have HF := Lib.hid (fun W q c (hh : Nents W q (ndAt m h d key j).ents) => FindR_any q c (ndAt m h d key j) key W hh (by have := hsp.l2; omega) hne)
        unfold ndV at HF
        have hl120 := hsp.l2
        obtain ⟨lo2, hlo⟩ : ∃ x, x = lowTo m h d key (j + 1) := ⟨_, rfl⟩
        obtain ⟨hi2, hhi⟩ : ∃ x, x = highTo m h d key (j + 1) := ⟨_, rfl⟩
        have Hlo0 := Lib.hid hlo
        have Hhi0 := Lib.hid hhi
        rw [show lowTo m h d key (j + 1) = lowS (lowTo m h d key j) (ndAt m h d key j) (findNd (ndAt m h d key j).ents key) from rfl] at hlo
        rw [show highTo m h d key (j + 1) = highS (highTo m h d key j) (ndAt m h d key j) (findNd (ndAt m h d key j).ents key) from rfl] at hhi
        clear hL hcell hx hhd hds hown hnd hea he0 hsp hne hlv
        generalize findNd (ndAt m h d key j).ents key = i at *
        generalize ndAt m h d key j = nd at *
        generalize pgAt m h d key j = pg at *
        generalize lowTo m h d key j = low at *
        generalize highTo m h d key j = high at *
        have Hhi : Hid (hi2 = if (entAt nd.ents i).1 ≠ [] ∧ (high = [] ∨ bl (entAt nd.ents i).1 high = true) then (entAt nd.ents i).1 else high) := Lib.hid hhi
        have Hlo := Lib.hid hlo
        clear hlo hhi
        have hfI : (i : Int) < nd.ents.length := by omega
        go_upto_region 8 with (fail)
        refine wp_region_pk 200 [(15, [(14, 16)])] (Ext.refl wr) (by kernel_rfl) (by kernel_rfl) (by kernel_rfl) (by kernel_rfl) (by kernel_rfl) (by kernel_rfl) (gok_one _ _ 15 14 16 (TChg wr.heap.size 53) (PtrNF wr.heap.size 0 nd) (fun _ _ h => h.below) (PtrNF.stable _ _ _) (by kernel_rfl)) ?_
        simp only [List.take_succ_cons, List.take_zero, List.take_nil, List.drop_succ_cons, List.drop_zero, List.drop_nil, List.map_cons, List.map_nil]
        repeat (first
          | (refine wpPL_step (o := ⟨some 16, _, _, _, _, _⟩) (PtrF wr.heap.size (.cells #[.int .i64 0, .int .i64 0, .slice none 0 0] 53)) (PtrF.stable _ _) (by first | exact .inr (AppF.strong _ _ _ _ (by decide)) | exact .inr (WrF.strong _ _ _ _ (by decide)) | exact .inr (RowsF.strong _ _ _ _ _ _ _ _ (by decide)) | exact .inr (Fresh.strong _ _ _ _ _ _ _ (by decide)) | exact .inr (IfcF.strong (Fresh.strong _ _ _ _ _ _ _ (by decide)) _) | exact .inl (by kernel_rfl)) (by kernel_rfl) (by first | exact .inl rfl | exact .inr ⟨_, _, _, rfl, rfl, rfl⟩) ?_ ?_
             · intro a w' he hr K hK
               go_simp
               exact hK _ _ (Ext.alloc _ _) ⟨_, rfl, Blk.new _ _, he.size⟩
             simp only [setL, List.set_cons_succ, List.set_cons_zero])
          | (refine wpPL_det (o := ⟨some 39, _, _, _, _, _⟩) (v := .agg #[.int .i64 d.id, .int .i64 d.org, .int .i64 d.format, .int .i64 d.length, .int .i64 d.block, .int .i64 d.keyAt, .int .i64 d.keyLength, .int .i64 d.interval, .int .i64 d.area, .int .i64 d.freeInterval, .int .i64 d.freeArea, .int .i64 d.base, .int .i64 d.altAt, .int .i64 d.altLength, .bool d.unique, .int .i64 d.cls, .string ⟨d.volume.toArray⟩, .string ⟨d.owner.toArray⟩, .int .i64 d.created, .int .i64 d.expires, .bool d.archived]) (by kernel_rfl) (by first | exact .inl rfl | exact .inr ⟨_, _, _, rfl, rfl, rfl⟩) ?_ ?_
             · intro a w' he hr K hK
               simp [Reads, Oper.looksAt, Op.operands, factAt, Is] at hr
               exact wp_load_row 26 (.tmp 6) rfl ((w.heap.size + 1)) (by go_simp) _ _ _ _ (he.blk _ _ Hds.out) dsDesc rfl dsSize (hK _ (Ext.refl _))
             simp only [setL, List.set_cons_succ, List.set_cons_zero])
          | (refine wpPL_step (o := ⟨some 48, _, _, _, _, _⟩) (LdF 0 nd 0) (LdF.stable _ _ _) (.inr (LdF.strong _ _ _ _ _)) (by kernel_rfl) (by first | exact .inl rfl | exact .inr ⟨_, _, _, rfl, rfl, rfl⟩) ?_ ?_
             · intro a w' he hr K hK
               simp [Reads, Oper.looksAt, Op.operands, Call.operands, factAt, Is] at hr
               go_simp
               refine (HLd.out _ he).mono ?_
               rintro e w'' ⟨he', q9, c9, rfl, hf⟩
               exact hK _ _ he' ⟨q9, c9, rfl, hf⟩
             simp only [setL, List.set_cons_succ, List.set_cons_zero])
          | (refine wpPL_move (o := ⟨some 37, _, _, _, _, _⟩) _ (LdF 0 nd 0) (by kernel_rfl) (by first | exact .inl rfl | exact .inr ⟨_, _, _, rfl, rfl, rfl⟩) (by first | exact .inl rfl | exact .inr rfl) rfl (LdF.stable _ _ _) (.inr (LdF.strong _ _ _ _ _)) ?_
             simp only [setL, List.set_cons_succ, List.set_cons_zero, List.getD_cons_succ, List.getD_cons_zero])
          | (refine wpPL_step (o := ⟨some 49, _, _, _, _, _⟩) (NvF 0 nd) (NvF.stable _ _) (.inr (NvF.strong _ _ _ _)) (by kernel_rfl) (by first | exact .inl rfl | exact .inr ⟨_, _, _, rfl, rfl, rfl⟩) ?_ ?_
             · intro a w' he hr K hK
               obtain ⟨q9, c9, h1, h9⟩ := hr 37 (by simp [Oper.looksAt, Op.operands])
               simp at h1
               go_simp
               exact hK _ _ (Ext.refl _) ⟨q9, c9, rfl, h9⟩
             simp only [setL, List.set_cons_succ, List.set_cons_zero])
          | (refine wpPL_det (o := ⟨some 50, _, _, _, _, _⟩) (v := .int .i64 0) (by kernel_rfl) (by first | exact .inl rfl | exact .inr ⟨_, _, _, rfl, rfl, rfl⟩) ?_ ?_
             · intro a w' he hr K hK
               obtain ⟨q9, c9, h1, h9⟩ := hr 37 (by simp [Oper.looksAt, Op.operands])
               simp at h1
               go_simp
               exact hK _ (Ext.refl _)
             simp only [setL, List.set_cons_succ, List.set_cons_zero])
          | (refine wpPL_pivot (o := ⟨none, _, _, _, _, _⟩) Any Any.stable (.inr Any.strong) (by kernel_rfl) (by first | exact .inl rfl | exact .inr ⟨_, _, _, rfl, rfl, rfl⟩) ?_ ?_
             · intro a w' he hr K hK
               obtain ⟨b, h1, h2, h3⟩ := hr 16 (by simp [Oper.looksAt, Op.operands])
               obtain ⟨q9, c9, hv, h9⟩ := hr 49 (by simp [Oper.looksAt, Op.operands])
               refine wp_store_row 53 (.tmp 16) (.tmp 49) rfl b _ h1 hv _ _ h2 ndSize rfl (by simp [Value.oneCell']) ?_
               exact hK _ _ ⟨b, _, h3, h2, Chg.setRow⟩ trivial (fun x hx _ y hy => by simp at hx; subst hx; simp at hy; subst hy; exact ⟨b, h1, q9, c9, Blk.setRow h2, own_tchg h9 (by decide) ⟨b, _, h3, h2, Chg.setRow⟩, h3⟩)
             simp only [setL, List.set_cons_succ, List.set_cons_zero])
          | (refine wpPL_move _ _ (by kernel_rfl) (by first | exact .inl rfl | exact .inr ⟨_, _, _, rfl, rfl, rfl⟩) (by first | exact .inl rfl | exact .inr rfl) rfl (by first | exact Is.stable _ | exact RowsF.stable _ _ _ _ _ | exact NoneF.stable _ _ | exact Fresh.stable _ _ _ | exact AppF.stable _ | exact WrF.stable _ | exact PtrF.stable _ _ | exact PlF.stable _ _) (by first | exact .inr (Is.strong _ _ _) | exact .inr (AppF.strong _ _ _ _ (by decide)) | exact .inr (WrF.strong _ _ _ _ (by decide)) | exact .inr (RowsF.strong _ _ _ _ _ _ _ _ (by decide)) | exact .inl (by kernel_rfl)) ?_
             simp only [setL, List.set_cons_succ, List.set_cons_zero, List.getD_cons_succ, List.getD_cons_zero])
          | (apply wpPL_det (by kernel_rfl) (by first | exact .inl rfl | exact .inr ⟨_, _, _, rfl, rfl, rfl⟩)
             · intro a w' he hr K hK
               simp [Reads, Oper.looksAt, Op.operands, Call.operands, factAt, Is] at hr
               have hx := he.cell
               go_simp
               try go_bits
               try (rw [if_neg (by omega)]; go_simp)
               first
                 | exact hK _ (Ext.refl _)
             simp only [setL, List.set_cons_succ, List.set_cons_zero]))
        intro w2 he2
        simp only [killL, killIn, List.foldl_cons, List.foldl_nil, List.set_cons_succ, List.set_cons_zero]
        repeat (first | with_reducible refine rest_is _ _ _ _ ?_ | (with_reducible refine rest_fact _ _ _ _ ?_; intro _ _) | with_reducible refine rest_end _ _ ?_)
        simp only [List.reverse_cons, List.reverse_nil, List.nil_append, List.cons_append]
        rename_i x16 h16 x37 h37 x48 h48 x49 h49
        obtain ⟨nb, rfl, q2, c2, hn2, ho2, hnb⟩ := h16
        clear h37 h48 h49 hnb
        obtain ⟨g, rfl, hgl, hcc⟩ : ∃ g, q2 = some ⟨g, 0, none⟩ ∧ g < w2.heap.size ∧ ∀ k, k < nd.ents.length → w2.cell? ⟨g, k * 2, none⟩ = some (.string ⟨(entAt nd.ents k).1.toArray⟩) := by
          obtain ⟨g, off, hq, hgl, hcc⟩ := (own_cellsND ho2).at i hfl
          obtain ⟨g', _, hq', _⟩ := own_parts ho2 (by omega)
          rw [hq'] at hq
          simp only [Option.some.injEq, Addr.mk.injEq, and_true] at hq
          obtain ⟨rfl, rfl⟩ := hq
          exact ⟨g', hq', hgl, fun k hk => by have := (hcc k hk).1; rw [Nat.zero_add] at this; exact this⟩
        obtain ⟨wb, rfl⟩ : ∃ wb : World, wb = w2 := ⟨_, rfl⟩
        have HQ2 := Lib.hid (And.intro (HQ.out.1.trans he2) (And.intro (HQ.out.2.1.ext he2) (And.intro (HQ.out.2.2.1.ext he2) (own_ext HQ.out.2.2.2 he2))))
        have HF2 : Hid (∀ W, Ext wb W → Calls Tryz.prog 31 #[.agg #[.int .i64 nd.level, .int .i64 nd.next, .slice (some ⟨g, 0, none⟩) nd.ents.length c2], .string ⟨key.toArray⟩] W fun e w' => e = .returned (.int .i64 (i : Nat)) ∧ Ext W w') := Lib.hid (fun W e => HF.out W _ c2 (own_cellsND (own_ext ho2 e)))
        have Hcc := Lib.hid hcc
        clear he2 hpb hcj hld HF HQ Hds c4 l4 hcc ho2
        go_upto_region 10 with (first
          | ((with_reducible (show wpList _ _ _ (⟨some 51, _, _, _, _, _⟩ :: _) _ _)); refine wpList_row (o := ⟨some 51, _, _, _, _, _⟩) rfl 53 (.tmp 16) rfl _ rfl _ _ _ hn2 ndDesc rfl ndSize ?_)
          | (go_at_call 31; refine (HF2.out _ (Ext.refl _)).mono ?_; rintro e w3 ⟨rfl, he3⟩))
        have hn3 := he3.blk _ _ hn2
        have c52 : w3.cell? ⟨nb, 2, none⟩ = some (.slice (some ⟨g, 0, none⟩) nd.ents.length c2) := Blk.val hn3 2 _ rfl
        have l52 := Blk.lt hn3
        have CY := Lib.hid ((he3.cell g _ hgl).trans (Hcc.out i hfl))
        have hgl3 := Nat.lt_of_lt_of_le hgl he3.size
        have HR := Lib.hid (And.intro (HQ2.out.1.trans he3) (And.intro (HQ2.out.2.1.ext he3) (And.intro (HQ2.out.2.2.1.ext he3) (own_ext HQ2.out.2.2.2 he3))))
        have CX : Hid (0 < i → w3.cell? ⟨g, (i - 1) * 2, none⟩ = some (.string ⟨(entAt nd.ents (i - 1)).1.toArray⟩)) := Lib.hid (fun h0 => (he3.cell g _ hgl).trans (Hcc.out (i - 1) (by omega)))
        clear hn2 hn3 he3 HQ2 Hcc hgl HF2
        generalize (entAt nd.ents i).1 = y at *
        rcases Nat.lt_or_ge 0 i with h0 | h0
        case' inl =>
          have c1 := CX.out h0
          have hl0 : lo2 = if bl low (entAt nd.ents (i - 1)).1 = true then (entAt nd.ents (i - 1)).1 else low := by rw [Hlo.out]; unfold lowS; rw [if_pos h0]
          have h0I : (0 : Int) < i := by omega
          have hw2 : IntKind.i64.wrap ((i : Int) - 1) = ((i - 1 : Nat) : Int) := by rw [IntWalk.i64_in _ (by omega)]; omega
          have hi1I : ((i - 1 : Nat) : Int) < nd.ents.length := by omega
          have hi1N : i - 1 < nd.ents.length := by omega
          clear CX Hlo
          generalize (entAt nd.ents (i - 1)).1 = x at *
          have hbg := bl_gt x low
          by_cases hbx : bl low x = true
          case' pos =>
            rw [if_pos hbx] at hl0
            rw [hbx] at hbg
            clear hbx
            subst hl0
            go_upto_region 12 with (fail)
          case' neg =>
            rw [if_neg hbx] at hl0
            have hbx2 : bl low x = false := by simpa using hbx
            rw [hbx2] at hbg
            clear hbx hbx2
            subst hl0
            go_upto_region 12 with (fail)
        case' inr =>
          have hl0 : lo2 = low := by rw [Hlo.out]; unfold lowS; rw [if_neg (by omega)]
          have h0I : decide ((0 : Int) < i) = false := decide_eq_false (by omega)
          have h0N : ¬ 0 < i := by omega
          clear CX Hlo h0
          subst hl0
          go_upto_region 12 with (fail)
        all_goals
          have cy := CY.out
          have HRl := Lib.hid HR.out
          try clear hbg
          clear HR CY
          by_cases y0 : y = []
          · subst y0
            have e : hi2 = high := by rw [Hhi.out, if_neg (by simp)]
            clear Hhi
            subst e
            go_wp2_with fail
            all_goals go_roundw
            case rel => exact ⟨j + 1, by omega, by go_num, by rw [Hlo0.out], by rw [Hhi0.out], HRl.out.1, HRl.out.2.1, HRl.out.2.2.1, HRl.out.2.2.2⟩
            case measure => simp [intOf]; omega
          · have y1 : (y == []) = false := by simpa using y0
            have y2 : (y != []) = true := by simpa using y0
            have y3 : y.isEmpty = false := by simpa using y0
            by_cases z0 : high = []
            · have e : hi2 = y := by rw [Hhi.out, if_pos ⟨y0, .inl z0⟩]
              clear Hhi
              subst z0; subst e
              clear y0
              go_wp2_with fail
              all_goals go_roundw
              case rel => exact ⟨j + 1, by omega, by go_num, by rw [Hlo0.out], by rw [Hhi0.out], HRl.out.1, HRl.out.2.1, HRl.out.2.2.1, HRl.out.2.2.2⟩
              case measure => simp [intOf]; omega
            · have z1 : (high == []) = false := by simpa using z0
              have z2 : (high != []) = true := by simpa using z0
              have z3 : high.isEmpty = false := by simpa using z0
              cases hlt : bl y high
              · have hlt2 : Go.Op.bytesLess y high = false := hlt
                have e : hi2 = high := by rw [Hhi.out, if_neg (by rw [hlt]; simp [z0])]
                clear Hhi
                subst e
                clear y0 z0 hlt
                go_wp2_with fail
                all_goals go_roundw
                all_goals first
                  | exact ⟨j + 1, by omega, by go_num, by rw [Hlo0.out], by rw [Hhi0.out], HRl.out.1, HRl.out.2.1, HRl.out.2.2.1, HRl.out.2.2.2⟩
                  | (simp [intOf]; omega)
              · have hlt2 : Go.Op.bytesLess y high = true := hlt
                have e : hi2 = y := by rw [Hhi.out, if_pos ⟨y0, .inr hlt⟩]
                clear Hhi
                subst e
                clear y0 z0 hlt
                go_wp2_with fail
                all_goals go_roundw
                all_goals first
                  | exact ⟨j + 1, by omega, by go_num, by rw [Hlo0.out], by rw [Hhi0.out], HRl.out.1, HRl.out.2.1, HRl.out.2.2.1, HRl.out.2.2.2⟩
                  | (simp [intOf]; omega)
      · have hltI : decide ((j : Int) < (H : Int)) = false := decide_eq_false (by omega)
        have hjH : j = H := by omega
        subst hjH
        go_wp2_with fail
        go_ret3
        exact HYes.out _ _ hx rfl
  · have HN := Lib.hid (fun e w' => bnd_no (m := m) (h := h) (d := d) (key := key) (w := w) (w' := w') (e := e) rfl hE)
    have HLo : Hid (∀ W, Strs W p m → Calls Tryz.prog 10 #[.slice p n cap, .agg #[.int .i64 h.applied, .int .i64 h.count, .int .i64 h.fin, .int .i64 h.root, .int .i64 h.height, .int .i64 h.splits, .int .i64 h.areas], .agg #[.int .i64 d.id, .int .i64 d.org, .int .i64 d.format, .int .i64 d.length, .int .i64 d.block, .int .i64 d.keyAt, .int .i64 d.keyLength, .int .i64 d.interval, .int .i64 d.area, .int .i64 d.freeInterval, .int .i64 d.freeArea, .int .i64 d.base, .int .i64 d.altAt, .int .i64 d.altLength, .bool d.unique, .int .i64 d.cls, .string ⟨d.volume.toArray⟩, .string ⟨d.owner.toArray⟩, .int .i64 d.created, .int .i64 d.expires, .bool d.archived], .string ⟨key.toArray⟩] W fun e w' => Ext W w' ∧ ∃ v, e = .returned (.tuple #[v, .int .i64 (locE m h d key)])) := Lib.hid (fun W hs' => (LocateR_any p cap n m h d key W hs' hn hm).mono (by
      rintro e w' ⟨a1, q, c, a2, a3⟩
      exact ⟨a1, _, a2⟩))
    have Hs := Lib.hid hs
    have hei : (locE m h d key != 0) = true := by simpa using hE
    clear hs hE
    generalize locE m h d key = er at *
    generalize BndOut m h d key w = OUT at *
    go_enter Tryz.func12, Tryz.ntmps12
    go_upto_region 1 with (fail)
    refine wp_name (fun w0 => Ext w w0 ∧ HdAt w0 w.heap.size h ∧ DsAt w0 (w.heap.size + 1) d) hdd ?_
    clear hdd
    rintro w0 ⟨he0, hb1, hb2⟩
    go_wp2_with (first
      | ((with_reducible (show wpList _ _ _ (⟨some 22, _, _, _, _, _⟩ :: _) _ _)); refine wpList_hd (o := ⟨some 22, _, _, _, _, _⟩) rfl (.tmp 5) rfl _ rfl h hb1 ?_)
      | ((with_reducible (show wpList _ _ _ (⟨some 23, _, _, _, _, _⟩ :: _) _ _)); refine wpList_ds (o := ⟨some 23, _, _, _, _, _⟩) rfl (.tmp 6) rfl _ rfl d hb2 ?_)
      | (go_at_call 10; refine (HLo.out _ (Hs.out.ext he0)).mono ?_; rintro e w1 ⟨he1, v, rfl⟩))
    go_ret3
    exact HN.out _ _ (he0.trans he1) rfl
end Go.Proofs.YtolmoknjmdmpgaaGreat
