/- The walk of the reference's Erase (chapter 19). -/
import Derived.Test.YtchgjopckmjmmaaDoorR11
import Derived.Test.YtchgjopckmjmmaaDoorR8
set_option linter.unusedSimpArgs false
set_option linter.unusedVariables false
namespace Go.Proofs.YtchgjopckmjmmaaDoor
open Go.RowKit Dsd

theorem find19_ok {m : List (List UInt8)} {h : Hd} {d : DS} {slot : Int} {w w' : World} {e : Ending} (hf : findE m h d slot = 0) (r : FindOut19 m h d slot w e w') : ∃ q cq, e = .returned (.tuple #[.slice q (findR m h d slot).1.length cq, .int .i64 ((idxS d slot : Nat) : Int), .int .i64 0]) ∧ Ext w w' ∧ idxS d slot < (findR m h d slot).1.length ∧ (findR m h d slot).1.length ≤ 127 ∧
      w'.ownsRow w.heap.size 103 2 (.slice q (findR m h d slot).1.length cq) (findR m h d slot).1.length (slotCells (findR m h d slot).1) := by
  obtain ⟨he, ⟨x, _⟩ | ⟨_, q, cq, x1, x2, x3, _, _, x6⟩⟩ := r
  · exact absurd hf x
  · exact ⟨q, cq, x1, he, x2, x3, x6⟩
theorem find19_err {m : List (List UInt8)} {h : Hd} {d : DS} {slot : Int} {w w' : World} {e : Ending} (hf : findE m h d slot ≠ 0) (r : FindOut19 m h d slot w e w') : ∃ q k c i, e = .returned (.tuple #[.slice q k c, .int .i64 i, .int .i64 (findE m h d slot)]) ∧ Ext w w' := by
  obtain ⟨he, ⟨_, q, k, c, i, x⟩ | ⟨x, _⟩⟩ := r
  · exact ⟨q, k, c, i, x, he⟩
  · exact absurd x hf
theorem eraseR_no {m : List (List UInt8)} {h : Hd} {d : DS} {slot : Int} (hf : findE m h d slot ≠ 0) : eraseR m h d slot = .no (findE m h d slot) := by
  unfold findE eraseR at *
  split at hf
  · rename_i x; rw [if_pos x, if_pos x]
  · rename_i x; rw [if_neg x, if_pos hf, if_neg x]
theorem findE_zero {m : List (List UInt8)} {h : Hd} {d : DS} {slot : Int} (hf : findE m h d slot = 0) : doorOf h d 2 = 0 ∧ (findR m h d slot).2 = 0 ∧ 1 ≤ slot ∧ slot ≤ 65536 := by
  unfold findE at hf
  split at hf
  · rename_i x; exact absurd hf x
  · rename_i x
    refine ⟨by simpa using x, hf, ?_⟩
    unfold findR at hf
    split at hf
    · simp at hf
    · omega
theorem slot_built0 : Tryd.prog.built 103 [] = some #[.bool false, .string ⟨#[]⟩] := by kernel_rfl
/-- What set hands back, as a fact. -/
theorem set_F (base : Nat) (p : Option Addr) (cap m : Nat) (L : List Slt) (ix : Nat) (u : Bool) (r : List UInt8) (hm : L.length = m) (hml : m ≤ 1000) (hix : ix ≤ 1000) (w : World) (hb : base ≤ w.heap.size) (hs : Slts w p L) :
    Calls Tryd.prog 57 #[.slice p m cap, .int .i64 (ix : Int), .agg #[.bool u, .string ⟨r.toArray⟩]] w fun e w' => ∃ v, e = .returned v ∧ Ext w w' ∧ RowsF 103 base 2 (setS L ix (u, r)).length (slotCells (setS L ix (u, r))) v w' :=
  (set_ref p cap m L ix u r hm hml hix w hs).mono fun e w' ⟨he, v, hv, ho⟩ => by
    obtain ⟨q, c, rfl⟩ := own_slice ho
    exact ⟨_, hv, he, q, c, rfl, own_le ho hb⟩
theorem write_row (d : DS) (page : Int) (q : Option Addr) (c n : Nat) (L : List Slt) (hn : n = L.length) (hl : n ≤ 1000) (B : Nat) (w : World) (ho : w.ownsRow B 103 2 (.slice q n c) n (slotCells L)) :
    Calls Tryd.prog 56 #[.agg #[.int .i64 d.id, .int .i64 d.org, .int .i64 d.format, .int .i64 d.length, .int .i64 d.block, .int .i64 d.keyAt, .int .i64 d.keyLength, .int .i64 d.interval, .int .i64 d.area, .int .i64 d.freeInterval, .int .i64 d.freeArea, .int .i64 d.base, .int .i64 d.altAt, .int .i64 d.altLength, .bool d.unique, .int .i64 d.cls, .string ⟨d.volume.toArray⟩, .string ⟨d.owner.toArray⟩, .int .i64 d.created, .int .i64 d.expires, .bool d.archived], .int .i64 page, .slice q n c] w fun e w' => e = .returned (.agg #[.int .i64 page, .string ⟨(esStr d.interval d.length L).toArray⟩]) ∧ Ext w w' := by
  subst hn
  obtain ⟨q', c', hv', hsl, _⟩ := own_slts ho
  simp at hv'
  obtain ⟨rfl, rfl⟩ := hv'
  exact write_ref d page _ _ _ L rfl (by omega) w hsl

set_option maxRecDepth 100000 in
set_option maxHeartbeats 2000000 in
theorem erase_ref19 (p : Option Addr) (cap n : Nat) (m : List (List UInt8)) (h : Hd) (d : DS) (slot : Int) (w : World) (hs : Strs w p m) (hn : m.length = n) (hm : Small m) :
    Calls Tryd.prog 19 #[.slice p n cap, .agg #[.int .i64 h.applied, .int .i64 h.count, .int .i64 h.fin, .int .i64 h.root, .int .i64 h.height, .int .i64 h.splits, .int .i64 h.areas], .agg #[.int .i64 d.id, .int .i64 d.org, .int .i64 d.format, .int .i64 d.length, .int .i64 d.block, .int .i64 d.keyAt, .int .i64 d.keyLength, .int .i64 d.interval, .int .i64 d.area, .int .i64 d.freeInterval, .int .i64 d.freeArea, .int .i64 d.base, .int .i64 d.altAt, .int .i64 d.altLength, .bool d.unique, .int .i64 d.cls, .string ⟨d.volume.toArray⟩, .string ⟨d.owner.toArray⟩, .int .i64 d.created, .int .i64 d.expires, .bool d.archived], .int .i64 slot] w (RelOut (eraseR m h d slot) w) := by
  have Hfi := Lib.hid (fun w' (he : Ext w w') => find_ref19 p cap n m h d slot w' (hs.ext he) hn hm)
  by_cases hf : findE m h d slot = 0
  · obtain ⟨hd, hfr, h1, h2⟩ := findE_zero hf
    have hv := (door_zero hd).1
    have hpl := (door_zero hd).2.1
    obtain ⟨p1, p2, p3, p4⟩ := plain_spec hpl
    have HG : Hid (eraseR m h d slot = ⟨{ h with count := h.count - 1 }, [wrS d (pageS d slot) (setS (findR m h d slot).1 (idxS d slot) (false, []))], 0⟩) := Lib.hid (by unfold eraseR; rw [if_neg (by simp [hd]), if_neg (by simp [hfr])])
    have Hfi2 := Lib.hid (fun w' (he : Ext w w') => (Hfi.out w' he).mono fun e w'' r => find19_ok hf r)
    have Hpl := Lib.hid (fun w => place_ref d hv slot h1 h2 w)
    have i1 : IntKind.i64.wrap (h.count - 1) = h.count - 1 := IntWalk.i64_in _ (by omega)
    clear Hfi hd hf hs hv hpl hfr
    generalize (findR m h d slot).1 = L at *
    generalize pageS d slot = pg at *
    generalize idxS d slot = ix at *
    go_enter Tryd.func19, Tryd.ntmps19
    go_upto_region 1 with (fail)
    refine wp_name (fun w0 => Ext w w0 ∧ HdAt w0 w.heap.size h ∧ DsAt w0 (w.heap.size + 1) d ∧ Blk w0 (w.heap.size + 1 + 1) (.cells #[.int .i64 0, .int .i64 0, .int .i64 0, .int .i64 0, .int .i64 0, .int .i64 0, .int .i64 0] 28)) (hd_ds_cl w h d _ _) ?_
    rintro w0 ⟨he0, hb1, hb2, hbr⟩
    go_upto_region 5 with (first
      | (refine wpList_ds (o := ⟨some 19, _, _, _, _, _⟩) rfl (.tmp 6) rfl _ rfl d hb2 ?_) | (refine wpList_hd rfl (.tmp 5) rfl _ rfl h hb1 ?_)
      | (go_at_call 58; refine (Hfi2.out _ he0).mono ?_; rintro e w1 ⟨q, cq, rfl, he1, hi1, hi2, hown⟩; have hb21 := hb2.ext he1)
      | (refine wpList_ds (o := ⟨some 30, _, _, _, _, _⟩) rfl (.tmp 6) rfl _ rfl d hb21 ?_)
      | (go_at_call 54; refine (Hpl.out _).mono ?_; rintro e w2 ⟨rfl, he2⟩))
    have hE12 := he1.trans he2
    have hsl : Slts w2 q L := by
      obtain ⟨p', c', hv', hsl, _⟩ := own_slts hown
      simp at hv'
      obtain ⟨rfl, _⟩ := hv'
      exact hsl.ext he2
    have hz2 := Nat.lt_of_lt_of_le (Blk.lt hbr) hE12.size
    refine wp_name (fun w4 => Ext w w4 ∧ HdAt w4 w.heap.size h ∧ DsAt w4 (w.heap.size + 1) d ∧ Blk w4 (w.heap.size + 1 + 1) (.cells #[.int .i64 0, .int .i64 0, .int .i64 0, .int .i64 0, .int .i64 0, .int .i64 0, .int .i64 0] 28) ∧ w4.ownsRow w0.heap.size 103 2 (.slice q L.length cq) L.length (slotCells L)) ⟨he0.trans hE12, hb1.ext hE12, hb2.ext hE12, hE12.blk _ _ hbr, own_ext hown he2⟩ ?_
    clear hb1 hb2 hbr hown he0 he1 he2 hE12 hb21 hsl
    rintro w4 ⟨he4, hb1, hb2, hbr, hown⟩
    have c1 : w4.cell? ⟨w.heap.size, 1, none⟩ = some (.int .i64 h.count) := Blk.val hb1 1 _ rfl
    have f1 : w4.frozen? ⟨w.heap.size, 1, none⟩ = false := Blk.free hb1 1
    have hlt4 : w.heap.size < w4.heap.size := Blk.lt hb1
    go_upto_region 6 with (fail)
    have hcx : Chg w.heap.size w4 (w4.setCell ⟨w.heap.size, 1, none⟩ (.int .i64 (h.count - 1))) := Chg.setCell
    have hbx : HdAt (w4.setCell ⟨w.heap.size, 1, none⟩ (.int .i64 (h.count - 1))) w.heap.size { h with count := h.count - 1 } := Blk.setCell hb1
    obtain ⟨H, hH⟩ : ∃ H : Hd, H = { h with count := h.count - 1 } := ⟨_, rfl⟩
    rw [← hH] at hbx HG
    refine wp_name (fun w5 => Ext w w5 ∧ HdAt w5 w.heap.size H ∧ DsAt w5 (w.heap.size + 1) d ∧ Blk w5 (w.heap.size + 1 + 1) (.cells #[.int .i64 0, .int .i64 0, .int .i64 0, .int .i64 0, .int .i64 0, .int .i64 0, .int .i64 0] 28) ∧ Slts w5 q L) ⟨hcx.ext he4 (Nat.le_refl _), hbx, hcx.blk hb2 (by omega), hcx.blk hbr (by omega), (by
      obtain ⟨p', c', hv', hsl, _⟩ := own_slts (own_chgT hown (by decide) hb1 hcx)
      simp at hv'
      obtain ⟨rfl, _⟩ := hv'
      exact hsl)⟩ ?_
    clear hb1 hb2 hbr hown he4 hcx hbx c1 f1 hH hlt4 hz2
    rintro w6 ⟨he6, hb1, hb2, hbr, hsl⟩
    have hSl : (setS L ix (false, [])).length ≤ 1000 := by rw [setS_len]; omega
    have Hset := Lib.hid (fun w' (he : Ext w6 w') => set_F w.heap.size q cq L.length L ix false [] rfl (by omega) (by omega) w' (Nat.le_trans he6.size he.size) (hsl.ext he))
    have Hwr := Lib.hid (fun q1 c1 w' ho => write_row d pg q1 c1 _ (setS L ix (false, [])) rfl hSl w.heap.size w' ho)
    have HW : Hid (wrS d pg (setS L ix (false, [])) = (pg, esStr d.interval d.length (setS L ix (false, [])))) := Lib.hid rfl
    rw [HW.out] at HG
    clear hSl
    generalize esStr d.interval d.length (setS L ix (false, [])) = es at *
    generalize setS L ix (false, []) = M at *
    have HEx := Lib.hid he6
    have HbV := Lib.hid hb1
    have HbD := Lib.hid hb2
    have HbR := Lib.hid hbr
    clear hsl he6 hb1 hb2 hbr HW
    refine Pre.wp_region_pk 10 [(9, [(0, 39)])] (HEx.out) (by kernel_rfl) (by kernel_rfl) (by kernel_rfl) (by kernel_rfl) (by kernel_rfl) (by kernel_rfl) (gok_ret (w.heap.size + 1 + 1) w (by omega) #[.int .i64 H.applied, .int .i64 H.count, .int .i64 H.fin, .int .i64 H.root, .int .i64 H.height, .int .i64 H.splits, .int .i64 H.areas] _ (.agg #[.int .i64 H.applied, .int .i64 H.count, .int .i64 H.fin, .int .i64 H.root, .int .i64 H.height, .int .i64 H.splits, .int .i64 H.areas]) 9 39 (by kernel_rfl)) (fun _ => prok_ret (w3 := w6)) (fun p hp => Ext.refl w6) ?_
    simp only [List.take_succ_cons, List.take_zero, List.take_nil, List.drop_succ_cons, List.drop_zero, List.drop_nil, List.map_cons, List.map_nil]
    repeat (first
      | (refine Pre.wpPL_step (o := ⟨some 39, _, _, _, _, _⟩) (LdF (w.heap.size + 1 + 1) (.agg #[.int .i64 H.applied, .int .i64 H.count, .int .i64 H.fin, .int .i64 H.root, .int .i64 H.height, .int .i64 H.splits, .int .i64 H.areas])) (LdF.stable _ _) (keepR (.inl (by kernel_rfl))) (by kernel_rfl) (by first | exact .inl rfl | exact .inr ⟨_, _, _, rfl, rfl, rfl⟩) ?_ ?_
         · intro a w' he0 hp hr K hK
           have he := hp 9 (by kernel_rfl) (by kernel_rfl)
           simp [Reads, Oper.looksAt, Op.operands, Call.operands, factAt, Is] at hr
           exact wp_load_row 28 (.tmp 5) rfl (w.heap.size) (by go_simp) _ _ _ _ (Ext.blk he _ _ HbV.out) hdDesc rfl hdSize (hK _ _ (Ext.refl _) ⟨rfl, _, Ext.blk he _ _ HbR.out, rfl⟩)
         simp only [setL, List.set_cons_succ, List.set_cons_zero])
      | (refine Pre.wpPL_det (o := ⟨some 40, _, _, _, _, _⟩) (v := .agg (#[.int .i64 d.id, .int .i64 d.org, .int .i64 d.format, .int .i64 d.length, .int .i64 d.block, .int .i64 d.keyAt, .int .i64 d.keyLength, .int .i64 d.interval, .int .i64 d.area, .int .i64 d.freeInterval, .int .i64 d.freeArea, .int .i64 d.base, .int .i64 d.altAt, .int .i64 d.altLength, .bool d.unique, .int .i64 d.cls, .string ⟨d.volume.toArray⟩, .string ⟨d.owner.toArray⟩, .int .i64 d.created, .int .i64 d.expires, .bool d.archived])) (fun k v => Pre.KeepsP.is _ _ _ _ k v) (by kernel_rfl) (by first | exact .inl rfl | exact .inr ⟨_, _, _, rfl, rfl, rfl⟩) ?_ ?_
         · intro a w' he0 hp hr K hK
           have he := hp 9 (by kernel_rfl) (by kernel_rfl)
           simp [Reads, Oper.looksAt, Op.operands, factAt, Is] at hr
           exact wp_load_row 23 (.tmp 6) rfl (w.heap.size + 1) (by go_simp) _ _ _ _ (Ext.blk he _ _ HbD.out) dsDesc rfl dsSize (hK _ (Ext.refl _))
         simp only [setL, List.set_cons_succ, List.set_cons_zero])
      | (refine Pre.wpPL_det (o := ⟨some 44, _, _, _, _, _⟩) (v := .agg #[.bool false, .string ⟨#[]⟩]) (fun k v => Pre.KeepsP.is _ _ _ _ k v) (by kernel_rfl) (by first | exact .inl rfl | exact .inr ⟨_, _, _, rfl, rfl, rfl⟩) ?_ ?_
         · intro a w' he0 hp hr K hK
           refine wp_build 103 #[] rfl ?_ ?_
           · show (Tryd.prog.built 103 []).isSome = true
             rw [slot_built0]; rfl
           · show K (a.put _ (.agg ((Tryd.prog.built 103 []).getD #[]))) w'
             rw [slot_built0]; exact hK _ (Ext.refl _)
         simp only [setL, List.set_cons_succ, List.set_cons_zero])
      | (refine Pre.wpPL_step (o := ⟨some 45, _, _, _, _, _⟩) (RowsF 103 w.heap.size 2 M.length (slotCells M)) (RowsF.stable _ _ _ _ _) (keepR (.inr fun v w w' c ⟨q, cc, h1, h2⟩ => ⟨q, cc, h1, own_rh h2 (by decide) c⟩)) (by kernel_rfl) (by first | exact .inl rfl | exact .inr ⟨_, _, _, rfl, rfl, rfl⟩) ?_ ?_
         · intro a w' he0 hp hr K hK
           have he := hp 9 (by kernel_rfl) (by kernel_rfl)
           simp [Reads, Oper.looksAt, Op.operands, Call.operands, factAt, Is] at hr
           go_simp
           refine (Hset.out w' he).mono ?_
           rintro e w'' ⟨v, rfl, he', hf⟩
           exact hK _ _ he' hf
         simp only [setL, List.set_cons_succ, List.set_cons_zero])
      | (refine Pre.wpPL_det (o := ⟨some 46, _, _, _, _, _⟩) (v := .agg #[.int .i64 pg, .string ⟨es.toArray⟩]) (fun k v => Pre.KeepsP.is _ _ _ _ k v) (by kernel_rfl) (by first | exact .inl rfl | exact .inr ⟨_, _, _, rfl, rfl, rfl⟩) ?_ ?_
         · intro a w' he0 hp hr K hK
           have he := hp 9 (by kernel_rfl) (by kernel_rfl)
           obtain ⟨q1, c1, h1, ho1⟩ := hr 45 (by simp [Oper.looksAt, Op.operands, Call.operands])
           simp [Reads, Oper.looksAt, Op.operands, Call.operands, factAt, Is] at hr
           simp at h1
           go_simp
           refine (Hwr.out q1 c1 w' ho1).mono ?_
           rintro e w'' ⟨rfl, he'⟩
           exact hK _ he'
         simp only [setL, List.set_cons_succ, List.set_cons_zero])
      | (refine Pre.wpPL_step (o := ⟨some 47, _, _, _, _, _⟩) (Fresh 1 1 (.cells #[.int .i64 pg, .string ⟨es.toArray⟩] 37)) (Fresh.stable _ _ _) (keepR (.inr fun v w w' c ⟨b, h1, h2⟩ => ⟨b, h1, rh_type c h2 (by decide)⟩)) (by kernel_rfl) (by first | exact .inl rfl | exact .inr ⟨_, _, _, rfl, rfl, rfl⟩) ?_ ?_
         · intro a w' he0 hp hr K hK
           simp [Reads, Oper.looksAt, Op.operands, Call.operands, factAt, Is] at hr
           go_simp
           exact hK _ _ (Ext.alloc _ _) (Fresh.new _ _ _ _)
         simp only [setL, List.set_cons_succ, List.set_cons_zero])
      | (refine Pre.wpPL_pivot (o := ⟨none, _, _, _, _, _⟩) Any Any.stable (fun _ _ => .inr fun _ _ _ _ h => h) (by kernel_rfl) (by first | exact .inl rfl | exact .inr ⟨_, _, _, rfl, rfl, rfl⟩) ?_ ?_
         · intro a w' he0 hp hr K hK
           have h0 := hr 8 (by simp [Oper.looksAt, Op.operands])
           obtain ⟨h1, old, hk1, hk2⟩ := hr 39 (by simp [Oper.looksAt, Op.operands])
           refine wp_store_row 28 (.tmp 8) (.tmp 39) rfl (w.heap.size + 1 + 1) #[.int .i64 H.applied, .int .i64 H.count, .int .i64 H.fin, .int .i64 H.root, .int .i64 H.height, .int .i64 H.splits, .int .i64 H.areas] h0 h1 _ old hk1 hdSize (by rw [hk2]; rfl) (hd_one H) ?_
           exact hK _ _ ⟨⟨_, hk1⟩, Chg.setRow⟩ trivial (fun x hx hxi y hy => by simp at hx; subst hx; simp at hy; subst hy; exact ⟨h1, Blk.setRow hk1⟩)
         simp only [setL, List.set_cons_succ, List.set_cons_zero])
      | (refine Pre.wpPL_move _ _ (by kernel_rfl) (by first | exact .inl rfl | exact .inr ⟨_, _, _, rfl, rfl, rfl⟩) (by first | exact .inl rfl | exact .inr rfl) rfl (by first | exact Is.stable _ | exact RowsF.stable _ _ _ _ _ | exact NoneF.stable _ _ | exact Fresh.stable _ _ _ | exact AppF.stable _ | exact WrF.stable _ | exact PtrF.stable _ _ | exact PlF.stable _ _) (by first | exact Pre.KeepsP.is _ _ _ _ _ _ ) ?_
         simp only [setL, List.set_cons_succ, List.set_cons_zero, List.getD_cons_succ, List.getD_cons_zero])
      | (apply Pre.wpPL_det (fun k v => Pre.KeepsP.is _ _ _ _ k v) (by kernel_rfl) (by first | exact .inl rfl | exact .inr ⟨_, _, _, rfl, rfl, rfl⟩)
         · intro a w' he0 hp hr K hK
           have he := hp 9 (by kernel_rfl) (by kernel_rfl)
           simp [Reads, Oper.looksAt, Op.operands, Call.operands, factAt, Is] at hr
           have hx := he.cell
           go_simp
           try go_bits
           try (rw [if_neg (by omega)]; go_simp)
           first
             | exact hK _ (Ext.refl _)
         simp only [setL, List.set_cons_succ, List.set_cons_zero]))
    intro w2 he2
    simp only [killL, killIn, List.foldl_cons, List.foldl_nil, List.set_cons_succ, List.set_cons_zero]
    repeat (first | with_reducible refine rest_is _ _ _ _ ?_ | (with_reducible refine rest_fact _ _ _ _ ?_; intro _ _) | with_reducible refine rest_end _ _ ?_)
    simp only [List.reverse_cons, List.reverse_nil, List.nil_append, List.cons_append]
    rename_i x39 h39 x45 h45 x47 h47
    obtain ⟨rfl, hbn⟩ := h39
    obtain ⟨b, rfl, hbw⟩ := h47
    clear h45
    go_wp2_with fail
    exact bodyPost_ret (results_row2 Tryd.results19 _ _ _ _ _ _ rfl hbn hdDesc rfl hdSize) rfl (relOut_yes he2 HG.out rfl (wrts_one hbw))
  · have HG : Hid (eraseR m h d slot = .no (findE m h d slot)) := Lib.hid (eraseR_no hf)
    have Hfi2 := Lib.hid (fun w' (he : Ext w w') => (Hfi.out w' he).mono fun e w'' r => find19_err hf r)
    have hfI : (findE m h d slot != 0) = true := by simpa using hf
    clear Hfi hf
    generalize findE m h d slot = er at *
    go_enter Tryd.func19, Tryd.ntmps19
    go_upto_region 1 with (fail)
    refine wp_name (fun w0 => Ext w w0 ∧ HdAt w0 w.heap.size h ∧ DsAt w0 (w.heap.size + 1) d ∧ Blk w0 (w.heap.size + 1 + 1) (.cells #[.int .i64 0, .int .i64 0, .int .i64 0, .int .i64 0, .int .i64 0, .int .i64 0, .int .i64 0] 28)) (hd_ds_cl w h d _ _) ?_
    rintro w0 ⟨he0, hb1, hb2, hbr⟩
    go_wp2_with (first
      | (refine wpList_ds rfl (.tmp 6) rfl _ rfl d hb2 ?_) | (refine wpList_hd rfl (.tmp 5) rfl _ rfl h hb1 ?_)
      | (go_at_call 58; refine (Hfi2.out _ he0).mono ?_; rintro e w4 ⟨q, k, cq, i, rfl, he4⟩; have hbr4 := he4.blk _ _ hbr)
      | (refine wpList_put rfl 28 (.tmp 8) (.tmp 27) rfl _ #[.int .i64 0, .int .i64 0, .int .i64 0, .int .i64 0, .int .i64 0, .int .i64 0, .int .i64 0] rfl rfl _ _ hbr4 hdSize rfl (hd_one Hd.zero) ?_; intro w5 hb5 hc5))
    exact bodyPost_ret (results_row2 Tryd.results19 _ _ _ _ _ _ rfl hb5 hdDesc rfl hdSize) rfl (relOut_no (hc5.ext (he0.trans he4) (by omega)) HG.out)
end Go.Proofs.YtchgjopckmjmmaaDoor
