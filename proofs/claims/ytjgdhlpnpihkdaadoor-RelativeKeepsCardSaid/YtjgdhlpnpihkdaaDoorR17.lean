/- The walk of the law RelativeReach. -/
import Derived.Test.YtjgdhlpnpihkdaaDoorR15
set_option linter.unusedSimpArgs false
set_option linter.unusedVariables false
namespace Go.Proofs.YtjgdhlpnpihkdaaDoor
open Go.RowKit Dsd

/-- What Put and Erase hand back, as a fact. -/
def RelF (R : RelRes) : Fact := fun x w => ∃ q c, x = .tuple #[.agg #[.int .i64 R.h.applied, .int .i64 R.h.count, .int .i64 R.h.fin, .int .i64 R.h.root, .int .i64 R.h.height, .int .i64 R.h.splits, .int .i64 R.h.areas], .slice q R.w.length c, .int .i64 R.e] ∧ Wrts w q R.w
theorem RelF.stable (R : RelRes) : (RelF R).stable := fun _ _ _ he ⟨q, c, h1, h2⟩ => ⟨q, c, h1, h2.ext he⟩
theorem RelF.strong (R : RelRes) (K : Kills) (B : Nat) (t : TypeId) (hne : 72 ≠ t) : (RelF R).strong K (fun _ => TChg B t) := fun _ _ _ _ _ c ⟨q, cc, h1, h3⟩ => ⟨q, cc, h1, h3.tchg hne c⟩
theorem relOut_F {R : RelRes} {w w' : World} {e : Ending} (h : RelOut R w e w') : ∃ v, e = .returned v ∧ Ext w w' ∧ RelF R v w' := by
  obtain ⟨he, q, k, cc, h1, h2, h3⟩ := h
  subst h2
  exact ⟨_, h1, he, q, cc, rfl, h3⟩
theorem conv_blk (n : Nat) (w : World) (b : Nat) (h : Blk w b (.cells (byteCells (List.replicate n 0)) 5)) : (convert 70 9 (.slice (some ⟨b, 0, none⟩) n n)).run Tryd.prog w = .ok (.string ⟨(List.replicate n (0 : UInt8)).toArray⟩) w :=
  run_row_string (P := Tryd.prog) w 70 9 5 b n n (List.replicate n 0) 5 (0, 0) Tryd.underlying70 Tryd.underlying5 Tryd.underlying9 h (by simp)
/-- What the law asks of Put's answer. -/
def reachB (d : DS) (slot : Int) (R : RelRes) : Prop :=
  if slot < 1 ∨ 65536 < slot then R.e = 2 else if 8 * slN d < slot then R.e = 8 else
    R.e = 0 ∧ (R.w.length : Int) = R.h.fin ∧ R.h.fin = (slot + slN d - 1) / slN d ∧ R.w.length ≤ 8 ∧ ∀ i, i < R.w.length → (R.w.getD i (0, [])).1 = (i : Int) + 1
theorem reach_all {d : DS} (hd : doorOf Hd.zero d 2 = 0) (hv : validB d = true) (slot : Int) (rec : List UInt8) (hr : (rec.length : Int) = d.length) : reachB d slot (putR [[]] Hd.zero d slot rec) := by
  unfold reachB
  by_cases h1 : slot < 1 ∨ 65536 < slot
  · rw [if_pos h1]
    unfold putR
    rw [if_neg (by simp [hd]), if_pos (by omega)]; rfl
  · rw [if_neg h1]
    by_cases h2 : 8 * slN d < slot
    · rw [if_pos h2, reach_no hd hv slot (by omega) (by omega) h2 rec hr]; rfl
    · rw [if_neg h2]
      obtain ⟨P, W, p1, p2, p3, p4, p5, p6⟩ := reach_yes hd hv slot (by omega) (by omega) (by omega) rec hr
      rw [p6]
      exact ⟨rfl, by rw [p4], p3, by rw [p4]; exact p2, fun i hi => p5 i (by rw [← p4]; exact hi)⟩

set_option maxRecDepth 100000 in
set_option maxHeartbeats 4000000 in
theorem RelativeReach_any (d : DS) (slot : Int) (w : World) :
    Calls Tryd.prog 6 #[.agg #[.int .i64 d.id, .int .i64 d.org, .int .i64 d.format, .int .i64 d.length, .int .i64 d.block, .int .i64 d.keyAt, .int .i64 d.keyLength, .int .i64 d.interval, .int .i64 d.area, .int .i64 d.freeInterval, .int .i64 d.freeArea, .int .i64 d.base, .int .i64 d.altAt, .int .i64 d.altLength, .bool d.unique, .int .i64 d.cls, .string ⟨d.volume.toArray⟩, .string ⟨d.owner.toArray⟩, .int .i64 d.created, .int .i64 d.expires, .bool d.archived], .int .i64 slot] w fun e w' => e = .returned (.bool true) ∧ Ext w w' := by
  have Hv := Lib.hid (Valid_ref d)
  cases hv : validB d
  · have HV := Lib.hid hv
    clear hv
    go_enter Tryd.func6, Tryd.ntmps6
    go_upto_region 1 with (fail)
    refine wp_name (fun w0 => Ext w w0 ∧ DsAt w0 w.heap.size d) ⟨Ext.alloc _ _, Blk.new w _⟩ ?_
    rintro w0 ⟨he0, hb⟩
    go_wp2_with (first
      | (go_at_call 34; refine (awake19_any _).mono ?_; rintro e w1 ⟨rfl, he1⟩; have hb1 := hb.ext he1)
      | (refine wpList_ds rfl (.tmp 2) rfl _ rfl d hb1 ?_)
      | (go_at_call 23; refine (Hv.out _).mono ?_; rw [HV.out]; rintro e w2 ⟨rfl, he2⟩))
    go_ret
    exact ⟨rfl, (he0.trans he1).trans he2⟩
  · rw [hv] at Hv
    by_cases ho : d.org = 2
    · obtain ⟨n1, n2⟩ := slN_pos hv
      have hd : doorOf Hd.zero d 2 = 0 := by unfold doorOf; rw [hv, ho]; rfl
      have hoI : (d.org != 2) = false := by simp [ho]
      obtain ⟨_, _, _, v4, v5, v6⟩ := valid_spec hv
      obtain ⟨ln, hln⟩ := Int.eq_ofNat_of_zero_le (show 0 ≤ d.length by omega)
      have hmk : ∀ w : World, (Instr.makeSlice 70 (.int .i64 d.length) (.int .i64 d.length)).run Tryd.prog w = .ok (.slice (some ⟨w.heap.size, 0, none⟩) ln ln) (w.alloc (.cells (byteCells (List.replicate ln 0)) 5)) := fun w => by rw [hln]; exact make_zeros ln (by omega) w
      have hrl : ((List.replicate ln (0 : UInt8)).length : Int) = d.length := by simp [hln]
      have Hput := Lib.hid (fun b w' (hs : Strs w' (some ⟨b, 0, none⟩) [[]]) => (rput_any (some ⟨b, 0, none⟩) 1 1 [[]] Hd.zero d slot (List.replicate ln 0) w' hs rfl ⟨by simp, by simp⟩ (by simp; omega)).mono (fun e w'' h => relOut_F h))
      have Hsc := Lib.hid (fun w => SlotCount_ref d.interval d.length w)
      have hsl : slotsN d.interval d.length = slN d := rfl
      rw [hsl] at Hsc
      have HRB := Lib.hid (reach_all hd hv slot (List.replicate ln 0) hrl)
      have Hcv := Lib.hid (conv_blk ln)
      clear hsl hd hv ho hrl hln v6
      generalize putR [[]] Hd.zero d slot (List.replicate ln 0) = R at *
      generalize List.replicate ln (0 : UInt8) = zs at *
      go_enter Tryd.func6, Tryd.ntmps6
      go_upto_region 1 with (fail)
      refine wp_name (fun w0 => Ext w w0 ∧ DsAt w0 w.heap.size d) ⟨Ext.alloc _ _, Blk.new w _⟩ ?_
      rintro w0 ⟨he0, hb⟩
      go_upto_region 6 with (first
        | (go_at_call 34; refine (awake19_any _).mono ?_; rintro e w1 ⟨rfl, he1⟩; have hb1 := hb.ext he1)
        | (refine wpList_ds rfl (.tmp 2) rfl _ rfl d hb1 ?_)
        | (go_at_call 23; refine (Hv.out _).mono ?_; rintro e w2 ⟨rfl, he2⟩; have c1 := Blk.val (hb1.ext he2) 1 _ rfl; have c7 := Blk.val (hb1.ext he2) 7 _ rfl; have c3 := Blk.val (hb1.ext he2) 3 _ rfl)
        | (go_at_call 35; refine (Hsc.out _).mono ?_; rintro e w3 ⟨rfl, rfl⟩))
      have Hb4 := Lib.hid (hb1.ext he2)
      have HE4 := Lib.hid ((he0.trans he1).trans he2)
      have hlt4 := Blk.lt Hb4.out
      clear hb hb1 he0 he1 he2 c1 c7
      obtain ⟨H, W, c⟩ := R
      refine wp_region_pk 200 [(15, [(14, 6)])] (Ext.refl w2) (by kernel_rfl) (by kernel_rfl) (by kernel_rfl) (by kernel_rfl) (by kernel_rfl) (by kernel_rfl) (gok_one _ _ 15 14 6 (TChg w2.heap.size 24) (PtrF w2.heap.size (.cells #[.int .i64 H.applied, .int .i64 H.count, .int .i64 H.fin, .int .i64 H.root, .int .i64 H.height, .int .i64 H.splits, .int .i64 H.areas] 24)) (fun _ _ h => h.below) (PtrF.stable _ _) (by kernel_rfl)) ?_
      simp only [List.take_succ_cons, List.take_zero, List.take_nil, List.drop_succ_cons, List.drop_zero, List.drop_nil, List.map_cons, List.map_nil]
      repeat (first
        | (refine wpPL_step (o := ⟨some 6, _, _, _, _, _⟩) (PtrF w2.heap.size (.cells #[.int .i64 0, .int .i64 0, .int .i64 0, .int .i64 0, .int .i64 0, .int .i64 0, .int .i64 0] 24)) (PtrF.stable _ _) (by first | exact .inr (RelF.strong _ _ _ _ (by decide)) | exact .inr (WrF.strong _ _ _ _ (by decide)) | exact .inr (RowsF.strong _ _ _ _ _ _ _ _ (by decide)) | exact .inr (Fresh.strong _ _ _ _ _ _ _ (by decide)) | exact .inr (IfcF.strong (Fresh.strong _ _ _ _ _ _ _ (by decide)) _) | exact .inl (by kernel_rfl)) (by kernel_rfl) (by first | exact .inl rfl | exact .inr ⟨_, _, _, rfl, rfl, rfl⟩) ?_ ?_
           · intro a w' he hr K hK
             go_simp
             exact hK _ _ (Ext.alloc _ _) ⟨_, rfl, Blk.new _ _, he.size⟩
           simp only [setL, List.set_cons_succ, List.set_cons_zero])
        | (refine wpPL_det (o := ⟨some 29, _, _, _, _, _⟩) (v := .agg #[.int .i64 d.id, .int .i64 d.org, .int .i64 d.format, .int .i64 d.length, .int .i64 d.block, .int .i64 d.keyAt, .int .i64 d.keyLength, .int .i64 d.interval, .int .i64 d.area, .int .i64 d.freeInterval, .int .i64 d.freeArea, .int .i64 d.base, .int .i64 d.altAt, .int .i64 d.altLength, .bool d.unique, .int .i64 d.cls, .string ⟨d.volume.toArray⟩, .string ⟨d.owner.toArray⟩, .int .i64 d.created, .int .i64 d.expires, .bool d.archived]) (by kernel_rfl) (by first | exact .inl rfl | exact .inr ⟨_, _, _, rfl, rfl, rfl⟩) ?_ ?_
           · intro a w' he hr K hK
             simp [Reads, Oper.looksAt, Op.operands, factAt, Is] at hr
             exact wp_load_row 26 (.tmp 2) rfl (w.heap.size) (by go_simp) _ _ _ _ (he.blk _ _ Hb4.out) dsDesc rfl dsSize (hK _ (Ext.refl _))
           simp only [setL, List.set_cons_succ, List.set_cons_zero])
        | (refine wpPL_step (o := ⟨some 26, _, _, _, _, _⟩) (Fresh 1 1 (.cells #[.string ⟨#[]⟩] 9)) (Fresh.stable _ _ _) (by first | exact .inr (RelF.strong _ _ _ _ (by decide)) | exact .inr (WrF.strong _ _ _ _ (by decide)) | exact .inr (RowsF.strong _ _ _ _ _ _ _ _ (by decide)) | exact .inr (Fresh.strong _ _ _ _ _ _ _ (by decide)) | exact .inr (IfcF.strong (Fresh.strong _ _ _ _ _ _ _ (by decide)) _) | exact .inl (by kernel_rfl)) (by kernel_rfl) (by first | exact .inl rfl | exact .inr ⟨_, _, _, rfl, rfl, rfl⟩) ?_ ?_
           · intro a w' he hr K hK
             simp [Reads, Oper.looksAt, Op.operands, Call.operands, factAt, Is] at hr
             go_simp
             exact hK _ _ (Ext.alloc _ _) (Fresh.new _ _ _ _)
           simp only [setL, List.set_cons_succ, List.set_cons_zero])
        | (refine wpPL_step (o := ⟨some 27, _, _, _, _, _⟩) (IfcF (Fresh 1 1 (.cells #[.string ⟨#[]⟩] 9)) 30) (IfcF.stable (Fresh.stable _ _ _) _) (by first | exact .inr (RelF.strong _ _ _ _ (by decide)) | exact .inr (WrF.strong _ _ _ _ (by decide)) | exact .inr (RowsF.strong _ _ _ _ _ _ _ _ (by decide)) | exact .inr (Fresh.strong _ _ _ _ _ _ _ (by decide)) | exact .inr (IfcF.strong (Fresh.strong _ _ _ _ _ _ _ (by decide)) _) | exact .inl (by kernel_rfl)) (by kernel_rfl) (by first | exact .inl rfl | exact .inr ⟨_, _, _, rfl, rfl, rfl⟩) ?_ ?_
           · intro a w' he hr K hK
             obtain ⟨b, h1, h2⟩ := hr 26 (by simp [Oper.looksAt, Op.operands])
             simp at h1
             go_simp
             exact hK _ _ (Ext.refl _) ⟨_, rfl, b, rfl, h2⟩
           simp only [setL, List.set_cons_succ, List.set_cons_zero])
        | (refine wpPL_det (o := ⟨some 28, _, _, _, _, _⟩) (v := .agg #[.int .i64 0, .int .i64 0, .int .i64 0, .int .i64 0, .int .i64 0, .int .i64 0, .int .i64 0]) (by kernel_rfl) (by first | exact .inl rfl | exact .inr ⟨_, _, _, rfl, rfl, rfl⟩) ?_ ?_
           · intro a w' he hr K hK
             refine wp_build 24 #[] rfl ?_ ?_
             · show (Tryd.prog.built 24 []).isSome = true
               rw [hdBuilt9z]; rfl
             · show K (a.put _ (.agg ((Tryd.prog.built 24 []).getD #[]))) w'
               rw [hdBuilt9z]; exact hK _ (Ext.refl _)
           simp only [setL, List.set_cons_succ, List.set_cons_zero])
        | (refine wpPL_step (o := ⟨some 33, _, _, _, _, _⟩) (Fresh ln ln (.cells (byteCells zs) 5)) (Fresh.stable _ _ _) (by first | exact .inr (RelF.strong _ _ _ _ (by decide)) | exact .inr (WrF.strong _ _ _ _ (by decide)) | exact .inr (RowsF.strong _ _ _ _ _ _ _ _ (by decide)) | exact .inr (Fresh.strong _ _ _ _ _ _ _ (by decide)) | exact .inr (IfcF.strong (Fresh.strong _ _ _ _ _ _ _ (by decide)) _) | exact .inl (by kernel_rfl)) (by kernel_rfl) (by first | exact .inl rfl | exact .inr ⟨_, _, _, rfl, rfl, rfl⟩) ?_ ?_
           · intro a w' he hr K hK
             simp [Reads, Oper.looksAt, Op.operands, Call.operands, factAt, Is] at hr
             go_simp
             exact hK _ _ (Ext.alloc _ _) (Fresh.new _ _ _ _)
           simp only [setL, List.set_cons_succ, List.set_cons_zero])
        | (refine wpPL_det (o := ⟨some 34, _, _, _, _, _⟩) (v := .string ⟨zs.toArray⟩) (by kernel_rfl) (by first | exact .inl rfl | exact .inr ⟨_, _, _, rfl, rfl, rfl⟩) ?_ ?_
           · intro a w' he hr K hK
             obtain ⟨b, h1, h2⟩ := hr 33 (by simp [Oper.looksAt, Op.operands, Call.operands])
             simp at h1
             have hcvb := Hcv.out w' b h2
             go_simp
             exact hK _ (Ext.refl _)
           simp only [setL, List.set_cons_succ, List.set_cons_zero])
        | (refine wpPL_step (o := ⟨some 35, _, _, _, _, _⟩) (RelF ⟨H, W, c⟩) (RelF.stable _) (by first | exact .inr (RelF.strong _ _ _ _ (by decide)) | exact .inr (WrF.strong _ _ _ _ (by decide)) | exact .inr (RowsF.strong _ _ _ _ _ _ _ _ (by decide)) | exact .inr (Fresh.strong _ _ _ _ _ _ _ (by decide)) | exact .inr (IfcF.strong (Fresh.strong _ _ _ _ _ _ _ (by decide)) _) | exact .inl (by kernel_rfl)) (by kernel_rfl) (by first | exact .inl rfl | exact .inr ⟨_, _, _, rfl, rfl, rfl⟩) ?_ ?_
           · intro a w' he hr K hK
             obtain ⟨y, h1, b, h2, h3⟩ := hr 27 (by simp [Oper.looksAt, Op.operands, Call.operands])
             simp [Reads, Oper.looksAt, Op.operands, Call.operands, factAt, Is] at hr
             subst h2
             simp at h1
             go_simp
             refine (Hput.out b _ (cells_blk h3)).mono ?_
             rintro e w'' ⟨v, rfl, he', hf⟩
             exact hK _ _ he' hf
           simp only [setL, List.set_cons_succ, List.set_cons_zero])
        | (refine wpPL_det (o := ⟨some 36, _, _, _, _, _⟩) (v := .agg #[.int .i64 H.applied, .int .i64 H.count, .int .i64 H.fin, .int .i64 H.root, .int .i64 H.height, .int .i64 H.splits, .int .i64 H.areas]) (by kernel_rfl) (by first | exact .inl rfl | exact .inr ⟨_, _, _, rfl, rfl, rfl⟩) ?_ ?_
           · intro a w' he hr K hK
             obtain ⟨q1, c1, h1, h3⟩ := hr 25 (by simp [Oper.looksAt, Op.operands])
             simp at h1
             go_simp
             exact hK _ (Ext.refl _)
           simp only [setL, List.set_cons_succ, List.set_cons_zero])
        | (refine wpPL_det (o := ⟨some 38, _, _, _, _, _⟩) (v := .int .i64 c) (by kernel_rfl) (by first | exact .inl rfl | exact .inr ⟨_, _, _, rfl, rfl, rfl⟩) ?_ ?_
           · intro a w' he hr K hK
             obtain ⟨q1, c1, h1, h3⟩ := hr 25 (by simp [Oper.looksAt, Op.operands])
             simp at h1
             go_simp
             exact hK _ (Ext.refl _)
           simp only [setL, List.set_cons_succ, List.set_cons_zero])
        | (refine wpPL_step (o := ⟨some 37, _, _, _, _, _⟩) (WrF W) (WrF.stable _) (by first | exact .inr (RelF.strong _ _ _ _ (by decide)) | exact .inr (WrF.strong _ _ _ _ (by decide)) | exact .inr (RowsF.strong _ _ _ _ _ _ _ _ (by decide)) | exact .inr (Fresh.strong _ _ _ _ _ _ _ (by decide)) | exact .inr (IfcF.strong (Fresh.strong _ _ _ _ _ _ _ (by decide)) _) | exact .inl (by kernel_rfl)) (by kernel_rfl) (by first | exact .inl rfl | exact .inr ⟨_, _, _, rfl, rfl, rfl⟩) ?_ ?_
           · intro a w' he hr K hK
             obtain ⟨q1, c1, h1, h3⟩ := hr 25 (by simp [Oper.looksAt, Op.operands])
             simp at h1
             go_simp
             exact hK _ _ (Ext.refl _) ⟨q1, c1, rfl, h3⟩
           simp only [setL, List.set_cons_succ, List.set_cons_zero])
        | (refine wpPL_pivot (o := ⟨none, _, _, _, _, _⟩) Any Any.stable (.inr Any.strong) (by kernel_rfl) (by first | exact .inl rfl | exact .inr ⟨_, _, _, rfl, rfl, rfl⟩) ?_ ?_
           · intro a w' he hr K hK
             obtain ⟨b, h1, h2, h3⟩ := hr 6 (by simp [Oper.looksAt, Op.operands])
             have hv := hr 36 (by simp [Oper.looksAt, Op.operands])
             refine wp_store_row 24 (.tmp 6) (.tmp 36) rfl b #[.int .i64 H.applied, .int .i64 H.count, .int .i64 H.fin, .int .i64 H.root, .int .i64 H.height, .int .i64 H.splits, .int .i64 H.areas] h1 hv _ _ h2 hdSize rfl (hd_one H) ?_
             exact hK _ _ ⟨b, _, h3, h2, Chg.setRow⟩ trivial (fun x hx _ y hy => by simp at hx; subst hx; simp at hy; subst hy; exact ⟨b, h1, Blk.setRow h2, h3⟩)
           simp only [setL, List.set_cons_succ, List.set_cons_zero])
        | (refine wpPL_move _ _ (by kernel_rfl) (by first | exact .inl rfl | exact .inr ⟨_, _, _, rfl, rfl, rfl⟩) (by first | exact .inl rfl | exact .inr rfl) rfl (by first | exact Is.stable _ | exact RowsF.stable _ _ _ _ _ | exact NoneF.stable _ _ | exact Fresh.stable _ _ _ | exact RelF.stable _ | exact WrF.stable _ | exact PtrF.stable _ _ | exact PlF.stable _ _) (by first | exact .inr (Is.strong _ _ _) | exact .inr (RelF.strong _ _ _ _ (by decide)) | exact .inr (WrF.strong _ _ _ _ (by decide)) | exact .inr (RowsF.strong _ _ _ _ _ _ _ _ (by decide)) | exact .inl (by kernel_rfl)) ?_
           simp only [setL, List.set_cons_succ, List.set_cons_zero, List.getD_cons_succ, List.getD_cons_zero])
        | (apply wpPL_det (by kernel_rfl) (by first | exact .inl rfl | exact .inr ⟨_, _, _, rfl, rfl, rfl⟩)
           · intro a w' he hr K hK
             simp [Reads, Oper.looksAt, Op.operands, Call.operands, factAt, Is] at hr
             have hx := he.cell
             go_simp
             try go_bits
             try (rw [if_neg (by omega)]; go_simp)
             first
               | exact hK _ (Ext.refl _)
           simp only [setL, List.set_cons_succ, List.set_cons_zero]))
      intro w2 he2
      simp only [killL, killIn, List.foldl_cons, List.foldl_nil, List.set_cons_succ, List.set_cons_zero]
      repeat (first | with_reducible refine rest_is _ _ _ _ ?_ | (with_reducible refine rest_fact _ _ _ _ ?_; intro _ _) | with_reducible refine rest_end _ _ ?_)
      simp only [List.reverse_cons, List.reverse_nil, List.nil_append, List.cons_append]
      rename_i x6 h6 x7 h7 x25 h25 x26 h26 x27 h27 x33 h33 x35 h35 x37 h37
      obtain ⟨hb6, rfl, hbk6, hB6⟩ := h6
      obtain ⟨q7, c7, rfl, hw7⟩ := h7
      clear h25 h26 h27 h33 h35 h37 hmk
      have c2 : w2.cell? ⟨hb6, 2, none⟩ = some (.int .i64 H.fin) := Blk.val hbk6 2 _ rfl
      have hlt6 : hb6 < w2.heap.size := Blk.lt hbk6
      have HE6 := Lib.hid (HE4.out.trans he2)
      have Hw7 := Lib.hid hw7
      have hrb := HRB.out
      unfold reachB at hrb
      simp only at hrb
      clear HRB Hput Hcv Hsc Hv Hb4 hbk6 hB6 he2 hw7 c3 hlt4 HE4
      by_cases h1 : slot < 1 ∨ 65536 < slot
      · rw [if_pos h1] at hrb
        subst hrb
        by_cases h1a : slot < 1
        · have h1I : decide (slot < 1) = true := decide_eq_true h1a
          clear h1
          go_wp2
          go_ret
          exact ⟨rfl, HE6.out⟩
        · have h1I : decide (slot < 1) = false := decide_eq_false h1a
          have h2I : decide (65536 < slot) = true := decide_eq_true (by omega)
          clear h1 h1a
          go_wp2
          go_ret
          exact ⟨rfl, HE6.out⟩
      · rw [if_neg h1] at hrb
        have h1I : decide (slot < 1) = false := decide_eq_false (by omega)
        have h2I : decide (65536 < slot) = false := decide_eq_false (by omega)
        have hs1 : 1 ≤ slot := by omega
        have hs2 : slot ≤ 65536 := by omega
        clear h1
        have i8 : IntKind.i64.wrap (8 * slN d) = 8 * slN d := IntWalk.i64_in _ (by omega)
        by_cases h3 : 8 * slN d < slot
        · rw [if_pos h3] at hrb
          subst hrb
          have h3I : decide (8 * slN d < slot) = true := decide_eq_true h3
          generalize slN d = N at *
          go_wp2
          go_ret
          exact ⟨rfl, HE6.out⟩
        · rw [if_neg h3] at hrb
          obtain ⟨rfl, r2, r3, r4, r5⟩ := hrb
          have h3I : decide (8 * slN d < slot) = false := decide_eq_false h3
          have i1 : IntKind.i64.wrap (slot + slN d) = slot + slN d := IntWalk.i64_in _ (by omega)
          have i2 : IntKind.i64.wrap (slot + slN d - 1) = slot + slN d - 1 := IntWalk.i64_in _ (by omega)
          have hq : (slot + slN d - 1).tdiv (slN d) = H.fin := by rw [r3]; exact Int.tdiv_eq_ediv_of_nonneg (by omega)
          have hN0 : ¬ slN d = 0 := by omega
          have i3 : IntKind.i64.wrap H.fin = H.fin := IntWalk.i64_in _ (by omega)
          have hlI : ((W.length : Int) != H.fin) = false := by simp [r2]
          have hfI : (H.fin != H.fin) = false := by simp
          have R5 := Lib.hid r5
          have R2 := Lib.hid r2
          clear r2 r3 r5
          generalize slN d = N at *
          generalize hfn : H.fin = fn at *
          clear hfn
          go_upto_region 11 with (fail)
          go_quiet (fail)
          go_wp2
          go_loopw [75] (fun i wr => ∃ k : Nat, k ≤ W.length ∧ i = .int .i64 k ∧ Ext w wr ∧ Wrts wr q7 W) (fun i _ => W.length - (intOf i).toNat)
          case atStart => exact ⟨0, Nat.zero_le _, rfl, HE6.out.trans (Ext.drewN _ _), Hw7.out.ext (Ext.drewN _ _)⟩
          case round =>
            obtain ⟨k, hk, rfl, hex, hw⟩ := hrel
            by_cases hlt : k < W.length
            · have hltI : (k : Int) < W.length := by omega
              obtain ⟨b, off, rfl, hb, hc⟩ := hw.at k hlt
              have hck := (hc k hlt).1
              rw [R5.out k hlt] at hck
              have HE := Lib.hid hex
              have HW := Lib.hid hw
              have hne : (((k : Int) + 1) != ((k : Int) + 1)) = false := by simp
              clear hc hw hex
              go_wp2
              go_roundw
              case rel => exact ⟨k + 1, by omega, by go_num, HE.out, HW.out⟩
              case measure => simp [intOf]; omega
            · have hltI : decide ((k : Int) < W.length) = false := decide_eq_false (by omega)
              go_wp2
              go_ret
              exact ⟨rfl, hex⟩
    · have hoI : (d.org != 2) = true := by simpa using ho
      clear hv ho
      go_enter Tryd.func6, Tryd.ntmps6
      go_upto_region 1 with (fail)
      refine wp_name (fun w0 => Ext w w0 ∧ DsAt w0 w.heap.size d) ⟨Ext.alloc _ _, Blk.new w _⟩ ?_
      rintro w0 ⟨he0, hb⟩
      go_wp2_with (first
        | (go_at_call 34; refine (awake19_any _).mono ?_; rintro e w1 ⟨rfl, he1⟩; have hb1 := hb.ext he1)
        | (refine wpList_ds rfl (.tmp 2) rfl _ rfl d hb1 ?_)
        | (go_at_call 23; refine (Hv.out _).mono ?_; rintro e w2 ⟨rfl, he2⟩; have c1 := Blk.val (hb1.ext he2) 1 _ rfl))
      go_ret
      exact ⟨rfl, (he0.trans he1).trans he2⟩
end Go.Proofs.YtjgdhlpnpihkdaaDoor
