/- The walks of the reference's Locate and Bounds, of trees. -/
import Derived.Test.YtolmoknjmdmpgaaGreatFE
import Derived.Test.YtolmoknjmdmpgaaGreatFD
import Derived.Test.YtolmoknjmdmpgaaGreatFC
import Derived.Test.YtolmoknjmdmpgaaGreatFF
set_option linter.unusedSimpArgs false
set_option linter.unusedVariables false
namespace Go.Proofs.YtolmoknjmdmpgaaGreat
open Go.RowKit Dsd
theorem intC_one (L : List Int) : ∀ u ∈ intC L, u.oneCell' = true := by
  intro u hu
  simp [intC] at hu
  obtain ⟨x, _, rfl⟩ := hu
  rfl
theorem path_ints {w : World} {B n c : Nat} {q : Option Addr} {L : List Int} (h : w.ownsRow B 3 1 (.slice q n c) n (intC L)) : Ints w q L := by
  obtain ⟨hl, ⟨hv, h0⟩ | ⟨g', cap, cur, hv, h1, h2, h3, h4, h5, h6⟩⟩ := h
  · cases hv
    refine .inl ?_
    have hl2 : L.length = 0 := by simpa [intC, h0] using hl
    rw [List.eq_nil_of_length_eq_zero hl2]; rfl
  · simp only [Value.slice.injEq] at hv
    obtain ⟨rfl, _, rfl⟩ := hv
    exact cells_take h2 h6
set_option maxRecDepth 100000 in
set_option maxHeartbeats 4000000 in
theorem LocateR_any (p : Option Addr) (cap n : Nat) (m : List (List UInt8)) (h : Hd) (d : DS) (key : List UInt8) (w : World) (hs : Strs w p m) (hn : m.length = n) (hm : Small m) :
    Calls Tryz.prog 10 #[.slice p n cap, .agg #[.int .i64 h.applied, .int .i64 h.count, .int .i64 h.fin, .int .i64 h.root, .int .i64 h.height, .int .i64 h.splits, .int .i64 h.areas], .agg #[.int .i64 d.id, .int .i64 d.org, .int .i64 d.format, .int .i64 d.length, .int .i64 d.block, .int .i64 d.keyAt, .int .i64 d.keyLength, .int .i64 d.interval, .int .i64 d.area, .int .i64 d.freeInterval, .int .i64 d.freeArea, .int .i64 d.base, .int .i64 d.altAt, .int .i64 d.altLength, .bool d.unique, .int .i64 d.cls, .string ⟨d.volume.toArray⟩, .string ⟨d.owner.toArray⟩, .int .i64 d.created, .int .i64 d.expires, .bool d.archived], .string ⟨key.toArray⟩] w (LocOut m h d key w) := by
  have hdd := hd_ds w h d
  have HNo : Hid (∀ e w' c, locE m h d key = c → c ≠ 0 → Ext w w' → e = .returned (.tuple #[.slice none 0 0, .int .i64 c]) → LocOut m h d key w e w') := Lib.hid (fun e w' c hc h0 h1 h2 => by
    have hl : locL m h d key = [] := by unfold locL; rw [if_neg (by rw [hc]; exact h0)]
    unfold LocOut
    rw [hl, hc]
    exact ⟨h1, none, 0, h2, rfl, .inl ⟨rfl, rfl⟩⟩)
  have HDo := Lib.hid (fun W => Door22_any h d W)
  by_cases hz : door22 h d = 0
  · have hlE : locE m h d key = erTo m h d key h.height.toNat := by unfold locE; rw [if_neg (by rw [hz]; simp)]
    have HYes : Hid (∀ e w' q c, erTo m h d key h.height.toNat = 0 → Ext w w' → e = .returned (.tuple #[.slice q (pathTo m h d key h.height.toNat).length c, .int .i64 0]) → w'.ownsRow w.heap.size 3 1 (.slice q (pathTo m h d key h.height.toNat).length c) (pathTo m h d key h.height.toNat).length (intC (pathTo m h d key h.height.toNat)) → LocOut m h d key w e w') := Lib.hid (fun e w' q c hc h1 h2 h3 => by
      have hl : locL m h d key = pathTo m h d key h.height.toNat := by unfold locL; rw [if_pos (by rw [hlE]; exact hc)]
      unfold LocOut
      rw [hl, hlE, hc]
      exact ⟨h1, q, c, h2, h3⟩)
    rw [hlE] at HNo
    obtain ⟨k1, k2, k3, k4, k5, k6, k7⟩ := door22_zero hz
    rw [hz] at HDo
    have HL := Lib.hid (fun page level W (hh : Strs W p m) => LoadR22_any p cap n m d page level W hh hn hm)
    have Hs := Lib.hid hs
    obtain ⟨H, hH⟩ : ∃ H : Nat, h.height = H := ⟨h.height.toNat, by omega⟩
    have hHn : h.height.toNat = H := by omega
    rw [hHn] at HNo HYes
    have HHn := Lib.hid hHn
    have HH := Lib.hid hH
    have hH6 : H ≤ 6 := by omega
    clear hH
    clear hs hz k1 k2 k3 k4 k5 k6 k7 hHn hlE
    generalize LocOut m h d key w = OUT at *
    go_enter Tryz.func10, Tryz.ntmps10
    go_upto_region 1 with (fail)
    refine wp_name (fun w0 => Ext w w0 ∧ HdAt w0 w.heap.size h ∧ DsAt w0 (w.heap.size + 1) d) hdd ?_
    clear hdd
    rintro w0 ⟨he0, hb1, hb2⟩
    go_upto_region 4 with (first
      | ((with_reducible (show wpList _ _ _ (⟨some 15, _, _, _, _, _⟩ :: _) _ _)); refine wpList_hd (o := ⟨some 15, _, _, _, _, _⟩) rfl (.tmp 5) rfl _ rfl h hb1 ?_)
      | ((with_reducible (show wpList _ _ _ (⟨some 16, _, _, _, _, _⟩ :: _) _ _)); refine wpList_ds (o := ⟨some 16, _, _, _, _, _⟩) rfl (.tmp 6) rfl _ rfl d hb2 ?_)
      | (go_at_call 29; refine (HDo.out _).mono ?_; rintro e w1 ⟨rfl, he1⟩))
    have hb11 := hb1.ext he1
    have hb21 := hb2.ext he1
    have c3 := Blk.val hb11 3 _ rfl
    have c4 : w1.cell? ⟨w.heap.size, 4, none⟩ = some (.int .i64 h.height) := Blk.val hb11 4 _ rfl
    have l3 := Blk.lt hb11
    rw [HH.out] at c4
    go_upto_region 6 with (fail)
    have hxA := (he0.trans he1).trans (Ext.alloc w1 (.cells #[.int .i64 h.root] 3))
    have hdA := hb21.ext (Ext.alloc w1 (.cells #[.int .i64 h.root] 3))
    have hoA : (w1.alloc (.cells #[.int .i64 h.root] 3)).ownsRow w.heap.size 3 1 (.slice (some ⟨w1.heap.size, 0, none⟩) 1 1) 1 (intC (pathTo m h d key 0)) := own_of_blk (xs := [.int .i64 h.root]) (Blk.new w1 _) (he0.trans he1).size rfl (by decide)
    go_loopw [11, 12] (fun out lv wr => ∃ j : Nat, j ≤ H ∧ lv = .int .i64 ((H - j : Nat) : Int) ∧ erTo m h d key j = 0 ∧ Ext w wr ∧ DsAt wr (w.heap.size + 1) d ∧ ∃ q c, out = .slice q (j + 1) c ∧ wr.ownsRow w.heap.size 3 1 (.slice q (j + 1) c) (j + 1) (intC (pathTo m h d key j))) (fun _ lv _ => (intOf lv).toNat)
    case atStart => exact ⟨0, Nat.zero_le _, by simp, rfl, hxA, hdA, some ⟨w1.heap.size, 0, none⟩, 1, rfl, hoA⟩
    case round =>
      clear he0 he1 hb1 hb2 hb11 hb21 c3 c4 l3 hxA hdA hoA
      obtain ⟨j, hj, rfl, her, hx, hds, q, c, rfl, hown⟩ := hrel
      by_cases hlt2 : j < H
      · have hpos : (0 : Int) < ((H - j : Nat) : Int) := by omega
        have hlv : h.height - (j : Int) = ((H - j : Nat) : Int) := by have := HH.out; omega
        have hL := HL.out (pgAt m h d key j) ((H - j : Nat) : Int)
        have hEr := erTo_next her
        have hnd : ndAt m h d key j = (loadD m d (pgAt m h d key j) ((H - j : Nat) : Int)).1 := by unfold ndAt; rw [hlv]
        have hea : erAt m h d key j = (loadD m d (pgAt m h d key j) ((H - j : Nat) : Int)).2 := by unfold erAt; rw [hlv]
        unfold Load22 at hL
        rw [← hnd, ← hea] at hL
        have HLd : Hid (∀ W, Ext wr W → Calls Tryz.prog 30 #[.slice p n cap, .agg #[.int .i64 d.id, .int .i64 d.org, .int .i64 d.format, .int .i64 d.length, .int .i64 d.block, .int .i64 d.keyAt, .int .i64 d.keyLength, .int .i64 d.interval, .int .i64 d.area, .int .i64 d.freeInterval, .int .i64 d.freeArea, .int .i64 d.base, .int .i64 d.altAt, .int .i64 d.altLength, .bool d.unique, .int .i64 d.cls, .string ⟨d.volume.toArray⟩, .string ⟨d.owner.toArray⟩, .int .i64 d.created, .int .i64 d.expires, .bool d.archived], .int .i64 (pgAt m h d key j), .int .i64 ((H - j : Nat) : Int)] W fun e w' => Ext W w' ∧ ∃ q c, e = .returned (.tuple #[.agg #[.int .i64 (ndAt m h d key j).level, .int .i64 (ndAt m h d key j).next, .slice q (ndAt m h d key j).ents.length c], .int .i64 (erAt m h d key j)]) ∧
            w'.ownsRow 0 75 2 (.slice q (ndAt m h d key j).ents.length c) (ndAt m h d key j).ents.length (entCells (ndAt m h d key j).ents)) := Lib.hid (fun W e => (hL W (Hs.out.ext (hx.trans e))).mono (fun e' w' ⟨a1, q, c, a2, a3⟩ => ⟨a1, q, c, a2, own_le a3 (Nat.zero_le _)⟩))
        obtain ⟨pb, off, hq0, hpb, hcell⟩ := (path_ints hown).at j (by rw [pathTo_len]; omega)
        subst hq0
        have hcj := hcell j (by rw [pathTo_len]; omega)
        rw [pathTo_at m h d key j (Nat.le_refl _)] at hcj
        obtain ⟨n1, hn1⟩ : ∃ n1, n1 = j + 1 := ⟨_, rfl⟩
        rw [← hn1]
        have hw1 : IntKind.i64.wrap ((n1 : Int) - 1) = (j : Int) := by rw [IntWalk.i64_in _ (by omega)]; omega
        have hwj : (n1 : Int) - 1 = (j : Int) := by omega
        have hjI : (j : Int) < (n1 : Int) := by omega
        have hjN : j < n1 := by omega
        have Hn1 := Lib.hid hn1
        clear hn1
        have Hx := Lib.hid hx
        have Hds := Lib.hid hds
        have Hown := Lib.hid hown
        have HPs := Lib.hid (pathTo_succ m h d key j)
        have HPg := Lib.hid (pgAt_succ m h d key j)
        have hld := Blk.lt hds
        clear hL hcell hx hown
        by_cases he0 : erAt m h d key j = 0
        · have hsp : NSpec (ndAt m h d key j) := by
            rw [hnd]; exact (load_spec (by rw [← hea]; exact he0)).1
          have hne : (ndAt m h d key j).ents ≠ [] := by have := hsp.l1; intro h9; rw [h9] at this; simp at this
          have hfl := find_lt key hne
          have HF := Lib.hid (fun W q c (hh : Nents W q (ndAt m h d key j).ents) => FindR_any q c (ndAt m h d key j) key W hh (by have := hsp.l2; omega) hne)
          unfold ndV at HF
          have HEr := Lib.hid (hEr.trans he0)
          have hl120 := hsp.l2
          rw [he0] at HLd
          clear hEr hnd hea her he0 hsp hne hlv
          generalize hpg2 : pgAt m h d key (j + 1) = pg' at *
          have HP2 := Lib.hid hpg2
          clear hpg2
          generalize findNd (ndAt m h d key j).ents key = i at *
          generalize ndAt m h d key j = nd at *
          generalize pgAt m h d key j = pg at *
          have hfI : (i : Int) < nd.ents.length := by omega
          go_upto_region 8 with (fail)
          refine wp_region_pk 200 [(14, [(13, 13)])] (Ext.refl wr) (by kernel_rfl) (by kernel_rfl) (by kernel_rfl) (by kernel_rfl) (by kernel_rfl) (by kernel_rfl) (gok_one _ _ 14 13 13 (TChg wr.heap.size 53) (PtrNF wr.heap.size 0 nd) (fun _ _ h => h.below) (PtrNF.stable _ _ _) (by kernel_rfl)) ?_
          simp only [List.take_succ_cons, List.take_zero, List.take_nil, List.drop_succ_cons, List.drop_zero, List.drop_nil, List.map_cons, List.map_nil]
          repeat (first
            | (refine wpPL_step (o := ⟨some 13, _, _, _, _, _⟩) (PtrF wr.heap.size (.cells #[.int .i64 0, .int .i64 0, .slice none 0 0] 53)) (PtrF.stable _ _) (by first | exact .inr (AppF.strong _ _ _ _ (by decide)) | exact .inr (WrF.strong _ _ _ _ (by decide)) | exact .inr (RowsF.strong _ _ _ _ _ _ _ _ (by decide)) | exact .inr (Fresh.strong _ _ _ _ _ _ _ (by decide)) | exact .inr (IfcF.strong (Fresh.strong _ _ _ _ _ _ _ (by decide)) _) | exact .inl (by kernel_rfl)) (by kernel_rfl) (by first | exact .inl rfl | exact .inr ⟨_, _, _, rfl, rfl, rfl⟩) ?_ ?_
               · intro a w' he hr K hK
                 go_simp
                 exact hK _ _ (Ext.alloc _ _) ⟨_, rfl, Blk.new _ _, he.size⟩
               simp only [setL, List.set_cons_succ, List.set_cons_zero])
            | (refine wpPL_det (o := ⟨some 32, _, _, _, _, _⟩) (v := .agg #[.int .i64 d.id, .int .i64 d.org, .int .i64 d.format, .int .i64 d.length, .int .i64 d.block, .int .i64 d.keyAt, .int .i64 d.keyLength, .int .i64 d.interval, .int .i64 d.area, .int .i64 d.freeInterval, .int .i64 d.freeArea, .int .i64 d.base, .int .i64 d.altAt, .int .i64 d.altLength, .bool d.unique, .int .i64 d.cls, .string ⟨d.volume.toArray⟩, .string ⟨d.owner.toArray⟩, .int .i64 d.created, .int .i64 d.expires, .bool d.archived]) (by kernel_rfl) (by first | exact .inl rfl | exact .inr ⟨_, _, _, rfl, rfl, rfl⟩) ?_ ?_
               · intro a w' he hr K hK
                 simp [Reads, Oper.looksAt, Op.operands, factAt, Is] at hr
                 exact wp_load_row 26 (.tmp 6) rfl ((w.heap.size + 1)) (by go_simp) _ _ _ _ (he.blk _ _ Hds.out) dsDesc rfl dsSize (hK _ (Ext.refl _))
               simp only [setL, List.set_cons_succ, List.set_cons_zero])
            | (refine wpPL_step (o := ⟨some 40, _, _, _, _, _⟩) (LdF 0 nd 0) (LdF.stable _ _ _) (.inr (LdF.strong _ _ _ _ _)) (by kernel_rfl) (by first | exact .inl rfl | exact .inr ⟨_, _, _, rfl, rfl, rfl⟩) ?_ ?_
               · intro a w' he hr K hK
                 simp [Reads, Oper.looksAt, Op.operands, Call.operands, factAt, Is] at hr
                 go_simp
                 refine (HLd.out _ he).mono ?_
                 rintro e w'' ⟨he', q9, c9, rfl, hf⟩
                 exact hK _ _ he' ⟨q9, c9, rfl, hf⟩
               simp only [setL, List.set_cons_succ, List.set_cons_zero])
            | (refine wpPL_move (o := ⟨some 30, _, _, _, _, _⟩) _ (LdF 0 nd 0) (by kernel_rfl) (by first | exact .inl rfl | exact .inr ⟨_, _, _, rfl, rfl, rfl⟩) (by first | exact .inl rfl | exact .inr rfl) rfl (LdF.stable _ _ _) (.inr (LdF.strong _ _ _ _ _)) ?_
               simp only [setL, List.set_cons_succ, List.set_cons_zero, List.getD_cons_succ, List.getD_cons_zero])
            | (refine wpPL_step (o := ⟨some 41, _, _, _, _, _⟩) (NvF 0 nd) (NvF.stable _ _) (.inr (NvF.strong _ _ _ _)) (by kernel_rfl) (by first | exact .inl rfl | exact .inr ⟨_, _, _, rfl, rfl, rfl⟩) ?_ ?_
               · intro a w' he hr K hK
                 obtain ⟨q9, c9, h1, h9⟩ := hr 30 (by simp [Oper.looksAt, Op.operands])
                 simp at h1
                 go_simp
                 exact hK _ _ (Ext.refl _) ⟨q9, c9, rfl, h9⟩
               simp only [setL, List.set_cons_succ, List.set_cons_zero])
            | (refine wpPL_det (o := ⟨some 42, _, _, _, _, _⟩) (v := .int .i64 0) (by kernel_rfl) (by first | exact .inl rfl | exact .inr ⟨_, _, _, rfl, rfl, rfl⟩) ?_ ?_
               · intro a w' he hr K hK
                 obtain ⟨q9, c9, h1, h9⟩ := hr 30 (by simp [Oper.looksAt, Op.operands])
                 simp at h1
                 go_simp
                 exact hK _ (Ext.refl _)
               simp only [setL, List.set_cons_succ, List.set_cons_zero])
            | (refine wpPL_pivot (o := ⟨none, _, _, _, _, _⟩) Any Any.stable (.inr Any.strong) (by kernel_rfl) (by first | exact .inl rfl | exact .inr ⟨_, _, _, rfl, rfl, rfl⟩) ?_ ?_
               · intro a w' he hr K hK
                 obtain ⟨b, h1, h2, h3⟩ := hr 13 (by simp [Oper.looksAt, Op.operands])
                 obtain ⟨q9, c9, hv, h9⟩ := hr 41 (by simp [Oper.looksAt, Op.operands])
                 refine wp_store_row 53 (.tmp 13) (.tmp 41) rfl b _ h1 hv _ _ h2 ndSize rfl (by simp [Value.oneCell']) ?_
                 exact hK _ _ ⟨b, _, h3, h2, Chg.setRow⟩ trivial (fun x hx _ y hy => by simp at hx; subst hx; simp at hy; subst hy; exact ⟨b, h1, q9, c9, Blk.setRow h2, own_tchg h9 (by decide) ⟨b, _, h3, h2, Chg.setRow⟩, h3⟩)
               simp only [setL, List.set_cons_succ, List.set_cons_zero])
            | (refine wpPL_move _ _ (by kernel_rfl) (by first | exact .inl rfl | exact .inr ⟨_, _, _, rfl, rfl, rfl⟩) (by first | exact .inl rfl | exact .inr rfl) rfl (by first | exact Is.stable _ | exact RowsF.stable _ _ _ _ _ | exact NoneF.stable _ _ | exact Fresh.stable _ _ _ | exact AppF.stable _ | exact WrF.stable _ | exact PtrF.stable _ _ | exact PlF.stable _ _) (by first | exact .inr (Is.strong _ _ _) | exact .inr (AppF.strong _ _ _ _ (by decide)) | exact .inr (WrF.strong _ _ _ _ (by decide)) | exact .inr (RowsF.strong _ _ _ _ _ _ _ _ (by decide)) | exact .inl (by kernel_rfl)) ?_
               simp only [setL, List.set_cons_succ, List.set_cons_zero, List.getD_cons_succ, List.getD_cons_zero])
            | (apply wpPL_det (by kernel_rfl) (by first | exact .inl rfl | exact .inr ⟨_, _, _, rfl, rfl, rfl⟩)
               · intro a w' he hr K hK
                 simp [Reads, Oper.looksAt, Op.operands, Call.operands, factAt, Is] at hr
                 have hx := he.cell
                 go_simp
                 try go_bits
                 try (rw [if_neg (by omega)]; go_simp)
                 first
                   | exact hK _ (Ext.refl _)
               simp only [setL, List.set_cons_succ, List.set_cons_zero]))
          intro w2 he2
          simp only [killL, killIn, List.foldl_cons, List.foldl_nil, List.set_cons_succ, List.set_cons_zero]
          repeat (first | with_reducible refine rest_is _ _ _ _ ?_ | (with_reducible refine rest_fact _ _ _ _ ?_; intro _ _) | with_reducible refine rest_end _ _ ?_)
          simp only [List.reverse_cons, List.reverse_nil, List.nil_append, List.cons_append]
          rename_i x13 h13 x30 h30 x40 h40 x41 h41
          obtain ⟨nb, rfl, q2, c2, hn2, ho2, hnb⟩ := h13
          clear h30 h40 h41 hnb
          obtain ⟨g, rfl, hgl, hcc⟩ : ∃ g, q2 = some ⟨g, 0, none⟩ ∧ g < w2.heap.size ∧ w2.cell? ⟨g, i * 2 + 1, none⟩ = some (.int .i64 (entAt nd.ents i).2) := by
            obtain ⟨g, off, hq, hgl, hcc⟩ := (own_cellsND ho2).at i hfl
            obtain ⟨g', _, hq', _⟩ := own_parts ho2 (by omega)
            rw [hq'] at hq
            simp only [Option.some.injEq, Addr.mk.injEq, and_true] at hq
            obtain ⟨rfl, rfl⟩ := hq
            have := (hcc i hfl).2
            rw [Nat.zero_add] at this
            exact ⟨g', hq', hgl, this⟩
          rw [← HPg.out] at hcc
          obtain ⟨wb, rfl⟩ : ∃ wb : World, wb = w2 := ⟨_, rfl⟩
          have Hown2 := Lib.hid (own_ext Hown.out he2)
          have Hx2 := Lib.hid (Hx.out.trans he2)
          have Hds2 := Lib.hid (Hds.out.ext he2)
          have c52 : wb.cell? ⟨nb, 2, none⟩ = some (.slice (some ⟨g, 0, none⟩) nd.ents.length c2) := Blk.val hn2 2 _ rfl
          have l52 := Blk.lt hn2
          have Hn2 := Lib.hid hn2
          have HF2 : Hid (∀ W, Ext wb W → Calls Tryz.prog 31 #[.agg #[.int .i64 nd.level, .int .i64 nd.next, .slice (some ⟨g, 0, none⟩) nd.ents.length c2], .string ⟨key.toArray⟩] W fun e w' => e = .returned (.int .i64 (i : Nat)) ∧ Ext W w') := Lib.hid (fun W e => HF.out W _ c2 (own_cellsND (own_ext ho2 e)))
          clear hn2 ho2 he2 hpb hcj hld HF Hown Hx Hds
          go_upto_region 11 with (fail)
          refine wp_region_mk 10 (Ext.refl wb) (by kernel_rfl) (by kernel_rfl) (by kernel_rfl) ?_
          simp only [List.take_succ_cons, List.take_zero, List.take_nil, List.drop_succ_cons, List.drop_zero, List.drop_nil, List.map_cons, List.map_nil]
          repeat (first
            | (refine wpML_det (o := ⟨some 49, _, _, _, _, _⟩) (v := .agg #[.int .i64 nd.level, .int .i64 nd.next, .slice (some ⟨g, 0, none⟩) nd.ents.length c2]) rfl ?_ ?_
               · intro a w' he hr K hK
                 simp [Reads, Oper.looksAt, Op.operands, factAt, Is] at hr
                 exact wp_load_row 53 (.tmp 13) rfl (nb) (by go_simp) _ _ _ _ (he.blk _ _ Hn2.out) ndDesc rfl ndSize (hK _ (Ext.refl _))
               simp only [setL, List.set_cons_succ, List.set_cons_zero])
            | (refine wpML_det (o := ⟨some 51, _, _, _, _, _⟩) (v := .int .i64 (i : Nat)) rfl ?_ ?_
               · intro a w' he hr K hK
                 simp [Reads, Oper.looksAt, Op.operands, Call.operands, factAt, Is] at hr
                 go_simp
                 refine (HF2.out _ he).mono ?_
                 rintro e w'' ⟨rfl, he''⟩
                 exact hK _ he''
               simp only [setL, List.set_cons_succ, List.set_cons_zero])
            | (refine wpML_fact (o := ⟨some 55, _, _, _, _, _⟩) (Fresh 1 1 (.cells #[.int .i64 pg'] 3)) (Fresh.stable _ _ _) rfl ?_ ?_
               · intro a w' he hr K hK
                 simp [Reads, Oper.looksAt, Op.operands, Call.operands, factAt, Is] at hr
                 go_simp
                 exact hK _ _ (Ext.alloc _ _) (Fresh.new _ _ _ _)
               simp only [setL, List.set_cons_succ, List.set_cons_zero])
            | (refine wpML_move _ _ rfl (by first | exact .inl rfl | exact .inr rfl) rfl (by first | exact Is.stable _ | exact AppF.stable _ | exact WrF.stable _ | exact PtrF.stable _ _ | exact IfcF.stable (Fresh.stable _ _ _) _ | exact PairF.stable (RowF.stable _ _ _ _) _ | exact RowF.stable _ _ _ _ | exact Fresh.stable _ _ _) ?_
               simp only [setL, List.set_cons_succ, List.set_cons_zero, List.getD_cons_succ, List.getD_cons_zero])
            | (refine wpML_moveC _ rfl (by first | exact .inl rfl | exact .inr rfl) ?_
               simp only [setL, List.set_cons_succ, List.set_cons_zero])
            | (apply wpML_det rfl
               · intro a w' he hr K hK
                 simp [Reads, Oper.looksAt, Op.operands, Call.operands, factAt, Is] at hr
                 have hx := he.cell
                 go_simp
                 try go_bits
                 try (rw [if_neg (by omega)]; go_simp)
                 first
                   | exact hK _ (Ext.refl _)
               simp only [setL, List.set_cons_succ, List.set_cons_zero])
            | (apply wpML_det rfl
               · intro a w' he hr K hK
                 simp [Reads, Oper.looksAt, Op.operands, Call.operands, factAt, Fresh] at hr
                 obtain ⟨b, hr1, hr2⟩ := hr
                 go_simp
                 exact hK _ (Ext.refl _)
               simp only [setL, List.set_cons_succ, List.set_cons_zero]))
          intro w2 he2
          repeat (first | with_reducible refine rest_is _ _ _ _ ?_ | (with_reducible refine rest_fact _ _ _ _ ?_; intro _ _) | with_reducible refine rest_end _ _ ?_)
          simp only [List.reverse_cons, List.reverse_nil, List.nil_append, List.cons_append]
          rename_i x55 h55
          obtain ⟨b55, rfl, hb55⟩ := h55
          have Hown3 := Lib.hid (own_ext Hown2.out he2)
          have Hx3 := Lib.hid (Hx2.out.trans he2)
          have Hds3 := Lib.hid (Hds2.out.ext he2)
          have Hb55 := Lib.hid hb55
          have hsw := Hx3.out.size
          clear he2 hb55 c52 l52 hcc hgl Hown2 Hx2 Hds2
          go_wp2_with (at_builtin; refine wpList_app (o := ⟨some 56, _, _, _, _, _⟩) rfl (.tmp 46) (.tmp 55) 30 3 rfl w.heap.size (.int .i64 0) 1 8 Tryz.underlying30 infoInt rfl (by decide) _ n1 _ rfl (by have e := Hn1.out; rw [e]; exact Hown3.out) _ [.int .i64 pg'] rfl Hb55.out rfl (by intro u hu; simp at hu; subst hu; rfl) (by omega) (by decide) (by omega) ?_; intro v8 w8 ho8 hg8; have hx8 := rty_app (T := 3) (size := 1) (n := n1) hg8 (by have e := Hn1.out; rw [e]; exact Hown3.out) (by omega); obtain ⟨q8, k8, rfl⟩ := own_slice ho8; have Ho8 := Lib.hid ho8; have Hx8 := Lib.hid hx8; clear ho8 hg8 hx8)
          go_roundw
          case rel =>
            have e := Hn1.out
            subst e
            refine ⟨j + 1, by omega, by go_num, HEr.out, Ext.trans' Hx3.out Hx8.out.1, Hx8.out.2 _ _ _ (by decide) Hds3.out, q8, k8, rfl, ?_⟩
            rw [HPs.out, show intC (pathTo m h d key j ++ [pg']) = intC (pathTo m h d key j) ++ [.int .i64 pg'] by simp [intC]]
            exact Ho8.out
          case measure => simp [intOf]; omega
        · have hst := erTo_stay (M := m) (h := h) (d := d) (key := key) (k := j + 1) (by rw [hEr]; exact he0) H (by omega)
          have HST := Lib.hid (hst.trans hEr)
          have hei : (erAt m h d key j != 0) = true := by simpa using he0
          have HO := Lib.hid (fun e w' => HNo.out e w' _ HST.out he0)
          clear hEr hnd hea her he0 hlv hst HST HPg
          generalize erAt m h d key j = er at *
          generalize ndAt m h d key j = nd at *
          generalize pgAt m h d key j = pg at *
          go_upto_region 8 with (fail)
          refine wp_region_pk 200 [(14, [(13, 13)])] (Ext.refl wr) (by kernel_rfl) (by kernel_rfl) (by kernel_rfl) (by kernel_rfl) (by kernel_rfl) (by kernel_rfl) (gok_one _ _ 14 13 13 (TChg wr.heap.size 53) (PtrNF wr.heap.size 0 nd) (fun _ _ h => h.below) (PtrNF.stable _ _ _) (by kernel_rfl)) ?_
          simp only [List.take_succ_cons, List.take_zero, List.take_nil, List.drop_succ_cons, List.drop_zero, List.drop_nil, List.map_cons, List.map_nil]
          repeat (first
            | (refine wpPL_step (o := ⟨some 13, _, _, _, _, _⟩) (PtrF wr.heap.size (.cells #[.int .i64 0, .int .i64 0, .slice none 0 0] 53)) (PtrF.stable _ _) (by first | exact .inr (AppF.strong _ _ _ _ (by decide)) | exact .inr (WrF.strong _ _ _ _ (by decide)) | exact .inr (RowsF.strong _ _ _ _ _ _ _ _ (by decide)) | exact .inr (Fresh.strong _ _ _ _ _ _ _ (by decide)) | exact .inr (IfcF.strong (Fresh.strong _ _ _ _ _ _ _ (by decide)) _) | exact .inl (by kernel_rfl)) (by kernel_rfl) (by first | exact .inl rfl | exact .inr ⟨_, _, _, rfl, rfl, rfl⟩) ?_ ?_
               · intro a w' he hr K hK
                 go_simp
                 exact hK _ _ (Ext.alloc _ _) ⟨_, rfl, Blk.new _ _, he.size⟩
               simp only [setL, List.set_cons_succ, List.set_cons_zero])
            | (refine wpPL_det (o := ⟨some 32, _, _, _, _, _⟩) (v := .agg #[.int .i64 d.id, .int .i64 d.org, .int .i64 d.format, .int .i64 d.length, .int .i64 d.block, .int .i64 d.keyAt, .int .i64 d.keyLength, .int .i64 d.interval, .int .i64 d.area, .int .i64 d.freeInterval, .int .i64 d.freeArea, .int .i64 d.base, .int .i64 d.altAt, .int .i64 d.altLength, .bool d.unique, .int .i64 d.cls, .string ⟨d.volume.toArray⟩, .string ⟨d.owner.toArray⟩, .int .i64 d.created, .int .i64 d.expires, .bool d.archived]) (by kernel_rfl) (by first | exact .inl rfl | exact .inr ⟨_, _, _, rfl, rfl, rfl⟩) ?_ ?_
               · intro a w' he hr K hK
                 simp [Reads, Oper.looksAt, Op.operands, factAt, Is] at hr
                 exact wp_load_row 26 (.tmp 6) rfl ((w.heap.size + 1)) (by go_simp) _ _ _ _ (he.blk _ _ Hds.out) dsDesc rfl dsSize (hK _ (Ext.refl _))
               simp only [setL, List.set_cons_succ, List.set_cons_zero])
            | (refine wpPL_step (o := ⟨some 40, _, _, _, _, _⟩) (LdF 0 nd er) (LdF.stable _ _ _) (.inr (LdF.strong _ _ _ _ _)) (by kernel_rfl) (by first | exact .inl rfl | exact .inr ⟨_, _, _, rfl, rfl, rfl⟩) ?_ ?_
               · intro a w' he hr K hK
                 simp [Reads, Oper.looksAt, Op.operands, Call.operands, factAt, Is] at hr
                 go_simp
                 refine (HLd.out _ he).mono ?_
                 rintro e w'' ⟨he', q9, c9, rfl, hf⟩
                 exact hK _ _ he' ⟨q9, c9, rfl, hf⟩
               simp only [setL, List.set_cons_succ, List.set_cons_zero])
            | (refine wpPL_move (o := ⟨some 30, _, _, _, _, _⟩) _ (LdF 0 nd er) (by kernel_rfl) (by first | exact .inl rfl | exact .inr ⟨_, _, _, rfl, rfl, rfl⟩) (by first | exact .inl rfl | exact .inr rfl) rfl (LdF.stable _ _ _) (.inr (LdF.strong _ _ _ _ _)) ?_
               simp only [setL, List.set_cons_succ, List.set_cons_zero, List.getD_cons_succ, List.getD_cons_zero])
            | (refine wpPL_step (o := ⟨some 41, _, _, _, _, _⟩) (NvF 0 nd) (NvF.stable _ _) (.inr (NvF.strong _ _ _ _)) (by kernel_rfl) (by first | exact .inl rfl | exact .inr ⟨_, _, _, rfl, rfl, rfl⟩) ?_ ?_
               · intro a w' he hr K hK
                 obtain ⟨q9, c9, h1, h9⟩ := hr 30 (by simp [Oper.looksAt, Op.operands])
                 simp at h1
                 go_simp
                 exact hK _ _ (Ext.refl _) ⟨q9, c9, rfl, h9⟩
               simp only [setL, List.set_cons_succ, List.set_cons_zero])
            | (refine wpPL_det (o := ⟨some 42, _, _, _, _, _⟩) (v := .int .i64 er) (by kernel_rfl) (by first | exact .inl rfl | exact .inr ⟨_, _, _, rfl, rfl, rfl⟩) ?_ ?_
               · intro a w' he hr K hK
                 obtain ⟨q9, c9, h1, h9⟩ := hr 30 (by simp [Oper.looksAt, Op.operands])
                 simp at h1
                 go_simp
                 exact hK _ (Ext.refl _)
               simp only [setL, List.set_cons_succ, List.set_cons_zero])
            | (refine wpPL_pivot (o := ⟨none, _, _, _, _, _⟩) Any Any.stable (.inr Any.strong) (by kernel_rfl) (by first | exact .inl rfl | exact .inr ⟨_, _, _, rfl, rfl, rfl⟩) ?_ ?_
               · intro a w' he hr K hK
                 obtain ⟨b, h1, h2, h3⟩ := hr 13 (by simp [Oper.looksAt, Op.operands])
                 obtain ⟨q9, c9, hv, h9⟩ := hr 41 (by simp [Oper.looksAt, Op.operands])
                 refine wp_store_row 53 (.tmp 13) (.tmp 41) rfl b _ h1 hv _ _ h2 ndSize rfl (by simp [Value.oneCell']) ?_
                 exact hK _ _ ⟨b, _, h3, h2, Chg.setRow⟩ trivial (fun x hx _ y hy => by simp at hx; subst hx; simp at hy; subst hy; exact ⟨b, h1, q9, c9, Blk.setRow h2, own_tchg h9 (by decide) ⟨b, _, h3, h2, Chg.setRow⟩, h3⟩)
               simp only [setL, List.set_cons_succ, List.set_cons_zero])
            | (refine wpPL_move _ _ (by kernel_rfl) (by first | exact .inl rfl | exact .inr ⟨_, _, _, rfl, rfl, rfl⟩) (by first | exact .inl rfl | exact .inr rfl) rfl (by first | exact Is.stable _ | exact RowsF.stable _ _ _ _ _ | exact NoneF.stable _ _ | exact Fresh.stable _ _ _ | exact AppF.stable _ | exact WrF.stable _ | exact PtrF.stable _ _ | exact PlF.stable _ _) (by first | exact .inr (Is.strong _ _ _) | exact .inr (AppF.strong _ _ _ _ (by decide)) | exact .inr (WrF.strong _ _ _ _ (by decide)) | exact .inr (RowsF.strong _ _ _ _ _ _ _ _ (by decide)) | exact .inl (by kernel_rfl)) ?_
               simp only [setL, List.set_cons_succ, List.set_cons_zero, List.getD_cons_succ, List.getD_cons_zero])
            | (apply wpPL_det (by kernel_rfl) (by first | exact .inl rfl | exact .inr ⟨_, _, _, rfl, rfl, rfl⟩)
               · intro a w' he hr K hK
                 simp [Reads, Oper.looksAt, Op.operands, Call.operands, factAt, Is] at hr
                 have hx := he.cell
                 go_simp
                 try go_bits
                 try (rw [if_neg (by omega)]; go_simp)
                 first
                   | exact hK _ (Ext.refl _)
               simp only [setL, List.set_cons_succ, List.set_cons_zero]))
          intro w2 he2
          simp only [killL, killIn, List.foldl_cons, List.foldl_nil, List.set_cons_succ, List.set_cons_zero]
          repeat (first | with_reducible refine rest_is _ _ _ _ ?_ | (with_reducible refine rest_fact _ _ _ _ ?_; intro _ _) | with_reducible refine rest_end _ _ ?_)
          simp only [List.reverse_cons, List.reverse_nil, List.nil_append, List.cons_append]
          rename_i x13 h13 x30 h30 x40 h40 x41 h41
          obtain ⟨nb, rfl, q2, c2, hn2, ho2, hnb⟩ := h13
          clear h30 h40 h41 hnb hn2 ho2
          go_wp2_with fail
          exact HO.out _ _ (Hx.out.trans he2) rfl
      · have hltI : decide ((0 : Int) < ((H - j : Nat) : Int)) = false := decide_eq_false (by omega)
        have hjH : j = H := by omega
        subst hjH
        have HO := Lib.hid (fun e w' q c => HYes.out e w' q c her)
        have hpl := pathTo_len m h d key j
        rw [hpl] at HO
        have hz0 : j - j = 0 := Nat.sub_self j
        clear her
        go_wp2_with fail
        exact HO.out _ _ q c hx rfl hown
  · have hz1 : door22 h d = 1 := by unfold door22 at hz ⊢; split at hz <;> rename_i hq; exact absurd rfl hz; rw [if_neg hq]
    have hlE : locE m h d key = 1 := by unfold locE; rw [if_pos hz]
    have HN := Lib.hid (fun e w' => HNo.out e w' 1 hlE (by decide))
    rw [hz1] at HDo
    clear HNo hz hz1 hlE hs
    generalize LocOut m h d key w = OUT at *
    go_enter Tryz.func10, Tryz.ntmps10
    go_upto_region 1 with (fail)
    refine wp_name (fun w0 => Ext w w0 ∧ HdAt w0 w.heap.size h ∧ DsAt w0 (w.heap.size + 1) d) hdd ?_
    clear hdd
    rintro w0 ⟨he0, hb1, hb2⟩
    go_wp2_with (first
      | ((with_reducible (show wpList _ _ _ (⟨some 15, _, _, _, _, _⟩ :: _) _ _)); refine wpList_hd (o := ⟨some 15, _, _, _, _, _⟩) rfl (.tmp 5) rfl _ rfl h hb1 ?_)
      | ((with_reducible (show wpList _ _ _ (⟨some 16, _, _, _, _, _⟩ :: _) _ _)); refine wpList_ds (o := ⟨some 16, _, _, _, _, _⟩) rfl (.tmp 6) rfl _ rfl d hb2 ?_)
      | (go_at_call 29; refine (HDo.out _).mono ?_; rintro e w1 ⟨rfl, he1⟩))
    exact HN.out _ _ (he0.trans he1) rfl
end Go.Proofs.YtolmoknjmdmpgaaGreat
