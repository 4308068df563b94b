/- The walk of the reference's Put (chapter 19): where the page is new; and for all inputs. -/
import Derived.Test.YtchgjopckmjmmaaDoorR13
import Derived.Test.YtchgjopckmjmmaaDoorR9
set_option linter.unusedSimpArgs false
set_option linter.unusedVariables false
namespace Go.Proofs.YtchgjopckmjmmaaDoor
open Go.RowKit Dsd

set_option maxRecDepth 100000 in
set_option maxHeartbeats 4000000 in
theorem put_new19 (p : Option Addr) (cap n : Nat) (m : List (List UInt8)) (h : Hd) (d : DS) (slot : Int) (r : List UInt8) (w : World)
    (hd : doorOf h d 2 = 0) (h1 : 1 ≤ slot) (h2 : slot ≤ 65536) (h3 : (r.length : Int) = d.length) (hpf : pageS d slot ≤ h.fin + 8) (hle : h.fin < pageS d slot) :
    Calls Tryd.prog 18 #[.slice p n cap, .agg #[.int .i64 h.applied, .int .i64 h.count, .int .i64 h.fin, .int .i64 h.root, .int .i64 h.height, .int .i64 h.splits, .int .i64 h.areas], .agg #[.int .i64 d.id, .int .i64 d.org, .int .i64 d.format, .int .i64 d.length, .int .i64 d.block, .int .i64 d.keyAt, .int .i64 d.keyLength, .int .i64 d.interval, .int .i64 d.area, .int .i64 d.freeInterval, .int .i64 d.freeArea, .int .i64 d.base, .int .i64 d.altAt, .int .i64 d.altLength, .bool d.unique, .int .i64 d.cls, .string ⟨d.volume.toArray⟩, .string ⟨d.owner.toArray⟩, .int .i64 d.created, .int .i64 d.expires, .bool d.archived], .int .i64 slot, .string ⟨r.toArray⟩] w (RelOut (putR m h d slot r) w) := by
  have Hdo := Lib.hid (fun w => Door_any h d 2 w)
  have hv := (door_zero hd).1
  have hpl := (door_zero hd).2.1
  obtain ⟨p1, p2, p3, p4⟩ := plain_spec hpl
  have HG : Hid (putR m h d slot r = ⟨{ h with count := h.count + 1, fin := pageS d slot }, freshS d h.fin (pageS d slot - 1 - h.fin).toNat ++ [wrS d (pageS d slot) (setS [] (idxS d slot) (true, r))], 0⟩) := Lib.hid (by
    unfold putR; rw [if_neg (by simp [hd]), if_neg (by omega), if_neg (by omega), if_neg (by omega)])
  rw [hd] at Hdo
  have h1I : decide (slot < 1) = false := decide_eq_false (by omega)
  have h2I : decide (65536 < slot) = false := decide_eq_false (by omega)
  have h3I : ((r.length : Int) != d.length) = false := by simp; omega
  obtain ⟨_, _, a3, a4, a5, a6⟩ := place_go hv h1 h2
  have Hpl := Lib.hid (fun w => place_ref d hv slot h1 h2 w)
  have i8 : IntKind.i64.wrap (h.fin + 8) = h.fin + 8 := IntWalk.i64_in _ (by omega)
  have hpI : decide (h.fin + 8 < pageS d slot) = false := decide_eq_false (by omega)
  have hleI : decide (pageS d slot ≤ h.fin) = false := decide_eq_false (by omega)
  have hleP : ¬ pageS d slot ≤ h.fin := by omega
  clear hd hpl hv h1 h2
  generalize pageS d slot = pg at *
  generalize idxS d slot = ix at *
  obtain ⟨K, hK⟩ : ∃ K : Nat, K = (pg - 1 - h.fin).toNat := ⟨_, rfl⟩
  have hKp : pg = h.fin + 1 + (K : Int) := by omega
  rw [← hK] at HG
  have HKp := Lib.hid hKp
  have hKb : K ≤ 8 := by omega
  have hcond : ∀ j : Nat, j ≤ K → decide (h.fin + 1 + (j : Int) < pg) = decide (j < K) := fun j hj => by
    have : (h.fin + 1 + (j : Int) < pg) ↔ j < K := by omega
    exact decide_eq_decide.2 this
  have Hcond := Lib.hid hcond
  clear hKp hK hcond
  obtain ⟨H2, hH2⟩ : ∃ H2 : Hd, H2 = { h with count := h.count + 1, fin := pg } := ⟨_, rfl⟩
  rw [← hH2] at HG
  have HH2 := Lib.hid hH2
  clear hH2
  go_enter Tryd.func18, Tryd.ntmps18
  go_upto_region 1 with (fail)
  refine wp_name (fun w0 => Ext w w0 ∧ HdAt w0 w.heap.size h ∧ DsAt w0 (w.heap.size + 1) d ∧ Blk w0 (w.heap.size + 1 + 1) (.cells #[.int .i64 0, .int .i64 0, .int .i64 0, .int .i64 0, .int .i64 0, .int .i64 0, .int .i64 0] 28)) (hd_ds_cl w h d _ _) ?_
  rintro w0 ⟨he0, hb1, hb2, hbr⟩
  go_upto_region 2 with (first
    | (refine wpList_ds rfl (.tmp 7) rfl _ rfl d hb2 ?_) | (refine wpList_hd rfl (.tmp 6) rfl _ rfl h hb1 ?_)
    | (go_at_call 53; refine (Hdo.out _).mono ?_; rintro e w1 ⟨rfl, he1⟩))
  refine wp_name (fun w5 => Ext w w5 ∧ HdAt w5 w.heap.size h ∧ DsAt w5 (w.heap.size + 1) d ∧ Blk w5 (w.heap.size + 1 + 1) (.cells #[.int .i64 0, .int .i64 0, .int .i64 0, .int .i64 0, .int .i64 0, .int .i64 0, .int .i64 0] 28)) ⟨he0.trans he1, hb1.ext he1, hb2.ext he1, he1.blk _ _ hbr⟩ ?_
  clear hb1 hb2 hbr he0 he1
  rintro w5 ⟨he5, hb1, hb2, hbr⟩
  have c3 : w5.cell? ⟨w.heap.size + 1, 3, none⟩ = some (.int .i64 d.length) := Blk.val hb2 3 _ rfl
  go_upto_region 9 with (first
    | (refine wpList_ds rfl (.tmp 7) rfl _ rfl d hb2 ?_)
    | (go_at_call 54; refine (Hpl.out _).mono ?_; rintro e w6 ⟨rfl, he6⟩; have c2 := Blk.val (hb1.ext he6) 2 _ rfl))
  refine wp_name (fun w6 => Ext w w6 ∧ HdAt w6 w.heap.size h ∧ DsAt w6 (w.heap.size + 1) d ∧ Blk w6 (w.heap.size + 1 + 1) (.cells #[.int .i64 0, .int .i64 0, .int .i64 0, .int .i64 0, .int .i64 0, .int .i64 0, .int .i64 0] 28)) ⟨he5.trans he6, hb1.ext he6, hb2.ext he6, he6.blk _ _ hbr⟩ ?_
  clear hb1 hb2 hbr he5 he6 c2 c3
  rintro w6 ⟨he6, hb1, hb2, hbr⟩
  go_upto_region 10 with (first
    | (refine wpList_put rfl 103 (.tmp 16) (.tmp 55) rfl _ #[.bool true, .string ⟨r.toArray⟩] rfl rfl _ _ (Blk.new w6 _) slotSize rfl (by simp [Value.oneCell']) ?_; intro w7 hbx hcx))
  have heA := hcx.ext (Ext.alloc w6 _) (Nat.le_refl _)
  have hxb := Blk.lt hbr
  refine wp_name (fun w7 => Ext w w7 ∧ HdAt w7 w.heap.size h ∧ DsAt w7 (w.heap.size + 1) d ∧ Blk w7 (w.heap.size + 1 + 1) (.cells #[.int .i64 0, .int .i64 0, .int .i64 0, .int .i64 0, .int .i64 0, .int .i64 0, .int .i64 0] 28) ∧ Blk w7 w6.heap.size (.cells #[.bool true, .string ⟨r.toArray⟩] 103)) ⟨he6.trans heA, hb1.ext heA, hb2.ext heA, heA.blk _ _ hbr, hbx⟩ ?_
  clear hb1 hb2 hbr he6 heA hbx hcx
  generalize w6.heap.size = xb at *
  rintro w7 ⟨he7, hb1, hb2, hbr, hbx⟩
  have c2 : w7.cell? ⟨w.heap.size, 2, none⟩ = some (.int .i64 h.fin) := Blk.val hb1 2 _ rfl
  have i9 : IntKind.i64.wrap (h.fin + 1) = h.fin + 1 := IntWalk.i64_in _ (by omega)
  obtain ⟨B, hB⟩ : ∃ B, B = w7.heap.size := ⟨_, rfl⟩
  have hrbB : w.heap.size + 1 + 1 < B := by rw [hB]; exact Blk.lt hbr
  have hxbB : xb < B := by rw [hB]; exact Blk.lt hbx
  have hlt7 : w.heap.size < w7.heap.size := Blk.lt hb1
  go_upto_region 19 with (fail)
  have hxx := Ext.alloc w7 (.cells #[] 37)
  have hrow0 : (w7.alloc (.cells #[] 37)).ownsRow B 37 2 (.slice (some ⟨w7.heap.size, 0, none⟩) 0 0) 0 (wrCells (freshS d h.fin 0)) := World.ownsRow_made w7 #[] 0 (by rw [hB]; exact Nat.le_refl _) (by simp) rfl
  have HStart : Hid (Ext w (w7.alloc (.cells #[] 37)) ∧ HdAt (w7.alloc (.cells #[] 37)) w.heap.size h ∧ DsAt (w7.alloc (.cells #[] 37)) (w.heap.size + 1) d ∧ Blk (w7.alloc (.cells #[] 37)) (w.heap.size + 1 + 1) (.cells #[.int .i64 0, .int .i64 0, .int .i64 0, .int .i64 0, .int .i64 0, .int .i64 0, .int .i64 0] 28) ∧ Blk (w7.alloc (.cells #[] 37)) xb (.cells #[.bool true, .string ⟨r.toArray⟩] 103) ∧ (w7.alloc (.cells #[] 37)).ownsRow B 37 2 (.slice (some ⟨w7.heap.size, 0, none⟩) 0 0) 0 (wrCells (freshS d h.fin 0)) ∧ B ≤ (w7.alloc (.cells #[] 37)).heap.size) :=
    Lib.hid ⟨he7.trans hxx, hb1.ext hxx, hb2.ext hxx, hxx.blk _ _ hbr, hxx.blk _ _ hbx, hrow0, by rw [hB]; simp⟩
  clear he7 hb1 hb2 hbr hbx hxx hrow0 c2 hlt7
  generalize w7.heap.size = b0 at *
  generalize w7.alloc (.cells #[] 37) = w8 at *
  clear hB
  go_loopw [19, 20] (fun v k wr => ∃ j : Nat, j ≤ K ∧ k = .int .i64 (h.fin + 1 + (j : Int)) ∧ Ext w wr ∧ HdAt wr w.heap.size h ∧ DsAt wr (w.heap.size + 1) d ∧ Blk wr (w.heap.size + 1 + 1) (.cells #[.int .i64 0, .int .i64 0, .int .i64 0, .int .i64 0, .int .i64 0, .int .i64 0, .int .i64 0] 28) ∧ Blk wr xb (.cells #[.bool true, .string ⟨r.toArray⟩] 103) ∧ wr.ownsRow B 37 2 v j (wrCells (freshS d h.fin j)) ∧ B ≤ wr.heap.size) (fun v _ _ => K - sliceLen v)
  case atStart => exact ⟨0, Nat.zero_le _, by simp, HStart.out⟩
  case round =>
    obtain ⟨j, hj, rfl, hex, hb1, hb2, hbr, hbx, hrow, hBz⟩ := hrel
    obtain ⟨qo, co, rfl⟩ := own_slice hrow
    have i1 : IntKind.i64.wrap (h.fin + 1 + (j : Int) + 1) = h.fin + 1 + (j : Int) + 1 := IntWalk.i64_in _ (by omega)
    have hcI := Hcond.out j hj
    have Hex := Lib.hid hex
    have Hb1 := Lib.hid hb1
    have Hbr := Lib.hid hbr
    have Hbx := Lib.hid hbx
    have Hrow := Lib.hid hrow
    have hltr : w.heap.size < wr.heap.size := Blk.lt hb1
    by_cases hlt : j < K
    · have hcT : h.fin + 1 + (j : Int) < pg := by simpa [hlt] using hcI
      rw [show decide (j < K) = true from decide_eq_true hlt] at hcI
      have Hwr := Lib.hid (fun w' => write_ref d (h.fin + 1 + (j : Int)) none 0 0 [] rfl (by omega) w' (.inl rfl))
      have HF : Hid (freshS d h.fin (j + 1) = freshS d h.fin j ++ [(h.fin + 1 + (j : Int), esStr d.interval d.length [])]) := Lib.hid (by rw [freshS_succ]; rfl)
      generalize esStr d.interval d.length [] = es at *
      have Hb2 := Lib.hid hb2
      clear hex hb1 hbr hbx hrow
      go_wp2_with (first
        | (refine wpList_ds rfl (.tmp 7) rfl _ rfl d hb2 ?_)
        | (go_at_call 56; refine (Hwr.out _).mono ?_; rintro e w9 ⟨rfl, he9⟩; have hz9 := he9.size)
        | (at_builtin; go_must (refine wpList_app rfl (.tmp 99) (.tmp 103) 29 37 rfl B (.agg #[.int .i64 0, .string ByteArray.empty]) 2 24 Tryd.underlying29 infoWrite rfl (by decide) _ _ _ rfl ((own_ext Hrow.out he9).alloc _) _ [_, _] rfl (Blk.new _ _) rfl (by intro u hu; simp at hu; rcases hu with rfl | rfl <;> rfl) (by omega) (by decide) (by simp; omega) ?_; intro v' w10 hown10 hgr; have hbel := Below.of_grown (B := B) hgr ((own_ext Hrow.out he9).alloc _) (Nat.le_refl _) (by simp; omega); have hz10 := hgr.size; simp at hz10; clear hgr)))
      have heA : Ext wr (w9.alloc (.cells #[.int .i64 (h.fin + 1 + (j : Int)), .string ⟨es.toArray⟩] 37)) := he9.trans (Ext.alloc _ _)
      obtain ⟨q', c', rfl⟩ := own_slice hown10
      go_roundw
      case rel => exact ⟨j + 1, by omega, by go_num, Ext.trans' (Hex.out.trans heA) (Below.mono hbel (by omega)), Blk.below (heA.blk _ _ Hb1.out) hbel (by omega), Blk.below (heA.blk _ _ Hb2.out) hbel (by omega), Blk.below (heA.blk _ _ Hbr.out) hbel (by omega), Blk.below (heA.blk _ _ Hbx.out) hbel (by omega), by rw [HF.out, wrCells_snoc]; exact hown10, by omega⟩
      case measure => simp [sliceLen]; omega
    · obtain rfl : j = K := by omega
      have hcT : ¬ h.fin + 1 + (j : Int) < pg := by simpa using hcI
      rw [show decide (j < j) = false by simp] at hcI
      have c1 : wr.cell? ⟨w.heap.size, 1, none⟩ = some (.int .i64 h.count) := Blk.val hb1 1 _ rfl
      have f1 : wr.frozen? ⟨w.heap.size, 1, none⟩ = false := Blk.free hb1 1
      have c2 : wr.cell? ⟨w.heap.size, 2, none⟩ = some (.int .i64 h.fin) := Blk.val hb1 2 _ rfl
      have f2 : wr.frozen? ⟨w.heap.size, 2, none⟩ = false := Blk.free hb1 2
      have i7 : IntKind.i64.wrap (h.count + 1) = h.count + 1 := IntWalk.i64_in _ (by omega)
      have Hb2 := Lib.hid hb2
      clear hex hb1 hb2 hbr hbx hrow
      go_upto_region 23 with (fail)
      have hcx : Chg w.heap.size wr ((wr.setCell ⟨w.heap.size, 1, none⟩ (.int .i64 (h.count + 1))).setCell ⟨w.heap.size, 2, none⟩ (.int .i64 pg)) := Chg.setCell.trans Chg.setCell
      refine wp_name (fun w9 => Ext w w9 ∧ HdAt w9 w.heap.size H2 ∧ DsAt w9 (w.heap.size + 1) d ∧ Blk w9 (w.heap.size + 1 + 1) (.cells #[.int .i64 0, .int .i64 0, .int .i64 0, .int .i64 0, .int .i64 0, .int .i64 0, .int .i64 0] 28) ∧ Blk w9 xb (.cells #[.bool true, .string ⟨r.toArray⟩] 103) ∧ w9.ownsRow B 37 2 (.slice qo j co) j (wrCells (freshS d h.fin j)) ∧ B ≤ w9.heap.size) ⟨hcx.ext Hex.out (Nat.le_refl _), by rw [HH2.out]; exact Blk.setCell (i := 2) (v := .int .i64 pg) (Blk.setCell (i := 1) (v := .int .i64 (h.count + 1)) Hb1.out), hcx.blk Hb2.out (by omega), hcx.blk Hbr.out (by omega), hcx.blk Hbx.out (blk_ne Hbx.out Hb1.out (by decide)), own_chgT Hrow.out (by decide) Hb1.out hcx, by rw [hcx.size]; exact hBz⟩ ?_
      clear hcx c1 f1 c2 f2 Hex Hb1 Hb2 Hbr Hbx Hrow hBz hltr hcI hcT i1 i7
      rintro w9 ⟨he9, hb1, hb2, hbr, hbx, hrow, hBz⟩
      have hSl : (setS [] ix (true, r)).length ≤ 1000 := by rw [setS_len]; simp; omega
      have Hset := Lib.hid (fun w' (he : Ext w9 w') => set_F w.heap.size none 0 0 [] ix true r rfl (by omega) (by omega) w' (Nat.le_trans he9.size he.size) (.inl rfl))
      have Hwr := Lib.hid (fun q1 c1 w' ho => write_row d pg q1 c1 _ (setS [] ix (true, r)) rfl hSl w.heap.size w' ho)
      have HW : Hid (wrS d pg (setS [] ix (true, r)) = (pg, esStr d.interval d.length (setS [] ix (true, r)))) := Lib.hid rfl
      rw [HW.out] at HG
      clear hSl
      generalize esStr d.interval d.length (setS [] ix (true, r)) = es at *
      generalize setS [] ix (true, r) = M at *
      generalize freshS d h.fin j = WL at *
      have HEx := Lib.hid he9
      have HbV := Lib.hid hb1
      have HbD := Lib.hid hb2
      have HbR := Lib.hid hbr
      have HbX := Lib.hid hbx
      have Hrow := Lib.hid hrow
      have HBz := Lib.hid hBz
      clear he9 hb1 hb2 hbr hbx HW hrow hBz
      refine Pre.wp_region_pk 10 [(9, [(8, 119)])] ((cutW_ext w9 B)) (by kernel_rfl) (by kernel_rfl) (by kernel_rfl) (by kernel_rfl) (by kernel_rfl) (by kernel_rfl) (gok_app (cutW w9 B) B (cutW_size HBz.out) _ 9 8 119) (fun _ => prok_app (w3 := w9)) (fun p hp => Ext.refl w9) ?_
      simp only [List.take_succ_cons, List.take_zero, List.take_nil, List.drop_succ_cons, List.drop_zero, List.drop_nil, List.map_cons, List.map_nil]
      repeat (first
        | (refine Pre.wpPL_det (o := ⟨some 111, _, _, _, _, _⟩) (v := .agg (#[.int .i64 H2.applied, .int .i64 H2.count, .int .i64 H2.fin, .int .i64 H2.root, .int .i64 H2.height, .int .i64 H2.splits, .int .i64 H2.areas])) (fun k v => Pre.KeepsP.is _ _ _ _ k v) (by kernel_rfl) (by first | exact .inl rfl | exact .inr ⟨_, _, _, rfl, rfl, rfl⟩) ?_ ?_
           · intro a w' he0 hp hr K hK
             simp [Reads, Oper.looksAt, Op.operands, factAt, Is] at hr
             exact wp_load_row 28 (.tmp 6) rfl (w.heap.size) (by go_simp) _ _ _ _ (Ext.blk he0 _ _ (cutW_blk HbV.out (by omega))) hdDesc rfl hdSize (hK _ (Ext.refl _))
           simp only [setL, List.set_cons_succ, List.set_cons_zero])
        | (refine Pre.wpPL_det (o := ⟨some 113, _, _, _, _, _⟩) (v := .agg (#[.int .i64 d.id, .int .i64 d.org, .int .i64 d.format, .int .i64 d.length, .int .i64 d.block, .int .i64 d.keyAt, .int .i64 d.keyLength, .int .i64 d.interval, .int .i64 d.area, .int .i64 d.freeInterval, .int .i64 d.freeArea, .int .i64 d.base, .int .i64 d.altAt, .int .i64 d.altLength, .bool d.unique, .int .i64 d.cls, .string ⟨d.volume.toArray⟩, .string ⟨d.owner.toArray⟩, .int .i64 d.created, .int .i64 d.expires, .bool d.archived])) (fun k v => Pre.KeepsP.is _ _ _ _ k v) (by kernel_rfl) (by first | exact .inl rfl | exact .inr ⟨_, _, _, rfl, rfl, rfl⟩) ?_ ?_
           · intro a w' he0 hp hr K hK
             have he := hp 9 (by kernel_rfl) (by kernel_rfl)
             simp [Reads, Oper.looksAt, Op.operands, factAt, Is] at hr
             exact wp_load_row 23 (.tmp 7) rfl (w.heap.size + 1) (by go_simp) _ _ _ _ (Ext.blk he _ _ HbD.out) dsDesc rfl dsSize (hK _ (Ext.refl _))
           simp only [setL, List.set_cons_succ, List.set_cons_zero])
        | (refine Pre.wpPL_det (o := ⟨some 116, _, _, _, _, _⟩) (v := .agg (#[.bool true, .string ⟨r.toArray⟩])) (fun k v => Pre.KeepsP.is _ _ _ _ k v) (by kernel_rfl) (by first | exact .inl rfl | exact .inr ⟨_, _, _, rfl, rfl, rfl⟩) ?_ ?_
           · intro a w' he0 hp hr K hK
             have he := hp 9 (by kernel_rfl) (by kernel_rfl)
             simp [Reads, Oper.looksAt, Op.operands, factAt, Is] at hr
             exact wp_load_row 103 (.tmp 16) rfl (xb) (by go_simp) _ _ _ _ (Ext.blk he _ _ HbX.out) slotDesc rfl slotSize (hK _ (Ext.refl _))
           simp only [setL, List.set_cons_succ, List.set_cons_zero])
        | (refine Pre.wpPL_step (o := ⟨some 117, _, _, _, _, _⟩) (RowsF 103 w.heap.size 2 M.length (slotCells M)) (RowsF.stable _ _ _ _ _) (keepW (.inr fun v w w' c ⟨q, cc, h1, h2⟩ => ⟨q, cc, h1, own_rw h2 (by decide) c⟩)) (by kernel_rfl) (by first | exact .inl rfl | exact .inr ⟨_, _, _, rfl, rfl, rfl⟩) ?_ ?_
           · intro a w' he0 hp hr K hK
             have he := hp 9 (by kernel_rfl) (by kernel_rfl)
             simp [Reads, Oper.looksAt, Op.operands, Call.operands, factAt, Is] at hr
             go_simp
             refine (Hset.out w' he).mono ?_
             rintro e w'' ⟨v, rfl, he', hf⟩
             exact hK _ _ he' hf
           simp only [setL, List.set_cons_succ, List.set_cons_zero])
        | (refine Pre.wpPL_det (o := ⟨some 118, _, _, _, _, _⟩) (v := .agg #[.int .i64 pg, .string ⟨es.toArray⟩]) (fun k v => Pre.KeepsP.is _ _ _ _ k v) (by kernel_rfl) (by first | exact .inl rfl | exact .inr ⟨_, _, _, rfl, rfl, rfl⟩) ?_ ?_
           · intro a w' he0 hp hr K hK
             have he := hp 9 (by kernel_rfl) (by kernel_rfl)
             obtain ⟨q1, c1, h1, ho1⟩ := hr 117 (by simp [Oper.looksAt, Op.operands, Call.operands])
             simp [Reads, Oper.looksAt, Op.operands, Call.operands, factAt, Is] at hr
             simp at h1
             go_simp
             refine (Hwr.out q1 c1 w' ho1).mono ?_
             rintro e w'' ⟨rfl, he'⟩
             exact hK _ he'
           simp only [setL, List.set_cons_succ, List.set_cons_zero])
        | (refine Pre.wpPL_step (o := ⟨some 119, _, _, _, _, _⟩) (Fresh 1 1 (.cells #[.int .i64 pg, .string ⟨es.toArray⟩] 37)) (Fresh.stable _ _ _) (keepW (.inl (by kernel_rfl))) (by kernel_rfl) (by first | exact .inl rfl | exact .inr ⟨_, _, _, rfl, rfl, rfl⟩) ?_ ?_
           · intro a w' he0 hp hr K hK
             simp [Reads, Oper.looksAt, Op.operands, Call.operands, factAt, Is] at hr
             go_simp
             exact hK _ _ (Ext.alloc _ _) (Fresh.new _ _ _ _)
           simp only [setL, List.set_cons_succ, List.set_cons_zero])
        | (refine Pre.wpPL_pivot (o := ⟨some 120, _, _, _, _, _⟩) (RowsF 37 (B) 2 (j + 1) (wrCells (WL) ++ [.int .i64 pg, .string ⟨es.toArray⟩])) (RowsF.stable _ _ _ _ _) (keepW (.inl (by kernel_rfl))) (by kernel_rfl) (by first | exact .inl rfl | exact .inr ⟨_, _, _, rfl, rfl, rfl⟩) ?_ ?_
           · intro a w' he0 hp hr K hK
             have he := hp 9 (by kernel_rfl) (by kernel_rfl)
             have h1 := hr 112 (by simp [Oper.looksAt, Op.operands, Call.operands])
             obtain ⟨b, hb1, hb2⟩ := hr 119 (by simp [Oper.looksAt, Op.operands, Call.operands])
             have hbase : B ≤ w'.heap.size := Nat.le_trans HBz.out (Ext.size he)
             refine wp_app (.tmp 112) (.tmp 119) 29 37 rfl (B) _ 2 24 Tryd.underlying29 infoWrite rfl (by decide) _ (j) _ h1 (own_ext Hrow.out he) b [.int .i64 pg, .string ⟨es.toArray⟩] hb1 hb2 rfl (by intro u hu; simp at hu; rcases hu with rfl | rfl <;> rfl) (by omega) (by decide) hbase ?_
             intro v' w'' ho' hg
             obtain ⟨q', c', rfl⟩ := own_slice ho'
             exact hK _ _ (rw_of hg (own_ext Hrow.out he) hbase) ⟨q', c', rfl, ho'⟩ (fun x hx hxi y hy => by simp at hx; subst hx; trivial)
           simp only [setL, List.set_cons_succ, List.set_cons_zero])
        | (refine Pre.wpPL_move _ _ (by kernel_rfl) (by first | exact .inl rfl | exact .inr ⟨_, _, _, rfl, rfl, rfl⟩) (by first | exact .inl rfl | exact .inr rfl) rfl (by first | exact Is.stable _ | exact RowsF.stable _ _ _ _ _ | exact NoneF.stable _ _ | exact Fresh.stable _ _ _ | exact AppF.stable _ | exact WrF.stable _ | exact PtrF.stable _ _ | exact PlF.stable _ _) (by first | exact Pre.KeepsP.is _ _ _ _ _ _ ) ?_
           simp only [setL, List.set_cons_succ, List.set_cons_zero, List.getD_cons_succ, List.getD_cons_zero])
        | (apply Pre.wpPL_det (fun k v => Pre.KeepsP.is _ _ _ _ k v) (by kernel_rfl) (by first | exact .inl rfl | exact .inr ⟨_, _, _, rfl, rfl, rfl⟩)
           · intro a w' he0 hp hr K hK
             have he := hp 9 (by kernel_rfl) (by kernel_rfl)
             simp [Reads, Oper.looksAt, Op.operands, Call.operands, factAt, Is] at hr
             have hx := he.cell
             go_simp
             try go_bits
             try (rw [if_neg (by omega)]; go_simp)
             first
               | exact hK _ (Ext.refl _)
           simp only [setL, List.set_cons_succ, List.set_cons_zero]))
      intro w2 he2
      simp only [killL, killIn, List.foldl_cons, List.foldl_nil, List.set_cons_succ, List.set_cons_zero]
      repeat (first | with_reducible refine rest_is _ _ _ _ ?_ | (with_reducible refine rest_fact _ _ _ _ ?_; intro _ _) | with_reducible refine rest_end _ _ ?_)
      simp only [List.reverse_cons, List.reverse_nil, List.nil_append, List.cons_append]
      rename_i x117 h117 x119 h119 x120 h120
      obtain ⟨q, c, rfl, horow⟩ := h120
      clear h117 h119
      have heW : Ext w w2 := (cutW_of HEx.out (by omega) HBz.out).trans he2
      have hbr2 := he2.blk _ _ (cutW_blk (B := B) HbR.out (by omega))
      go_wp2_with (first
        | (refine wpList_put rfl 28 (.tmp 10) (.tmp 111) rfl _ #[.int .i64 H2.applied, .int .i64 H2.count, .int .i64 H2.fin, .int .i64 H2.root, .int .i64 H2.height, .int .i64 H2.splits, .int .i64 H2.areas] rfl rfl _ _ hbr2 hdSize rfl (hd_one H2) ?_; intro w10 hb10 hc10))
      have ho10 := own_chgT horow (by decide) hbr2 hc10
      have e : wrCells WL ++ [.int .i64 pg, .string ⟨es.toArray⟩] = wrCells (WL ++ [(pg, es)]) := (wrCells_snoc WL (pg, es)).symm
      rw [e] at ho10
      obtain ⟨q', c', hv', hwr, hlen⟩ := own_wrts ho10
      simp at hv'
      obtain ⟨rfl, rfl⟩ := hv'
      exact bodyPost_ret (results_row2 Tryd.results18 _ _ _ _ _ _ rfl hb10 hdDesc rfl hdSize) rfl (relOut_yes (hc10.ext heW (by omega)) HG.out hlen.symm hwr)

/-- Put, for all inputs. -/
theorem put_ref19 (p : Option Addr) (cap n : Nat) (m : List (List UInt8)) (h : Hd) (d : DS) (slot : Int) (r : List UInt8) (w : World) (hs : Strs w p m) (hn : m.length = n) (hm : Small m) (hrl : r.length ≤ 1000000) :
    Calls Tryd.prog 18 #[.slice p n cap, .agg #[.int .i64 h.applied, .int .i64 h.count, .int .i64 h.fin, .int .i64 h.root, .int .i64 h.height, .int .i64 h.splits, .int .i64 h.areas], .agg #[.int .i64 d.id, .int .i64 d.org, .int .i64 d.format, .int .i64 d.length, .int .i64 d.block, .int .i64 d.keyAt, .int .i64 d.keyLength, .int .i64 d.interval, .int .i64 d.area, .int .i64 d.freeInterval, .int .i64 d.freeArea, .int .i64 d.base, .int .i64 d.altAt, .int .i64 d.altLength, .bool d.unique, .int .i64 d.cls, .string ⟨d.volume.toArray⟩, .string ⟨d.owner.toArray⟩, .int .i64 d.created, .int .i64 d.expires, .bool d.archived], .int .i64 slot, .string ⟨r.toArray⟩] w (RelOut (putR m h d slot r) w) := by
  by_cases hno : doorOf h d 2 ≠ 0 ∨ slot < 1 ∨ 65536 < slot ∨ (r.length : Int) ≠ d.length ∨ h.fin + 8 < pageS d slot ∨ (pageS d slot ≤ h.fin ∧ (loadS m d (pageS d slot)).2 ≠ 0)
  · exact put_no19 p cap n m h d slot r w hs hn hm hrl hno
  · have h0 : doorOf h d 2 = 0 := by
      by_cases x : doorOf h d 2 = 0
      · exact x
      · exact absurd (.inl x) hno
    have x1 : 1 ≤ slot := by
      by_cases x : slot < 1
      · exact absurd (.inr (.inl x)) hno
      · omega
    have x2 : slot ≤ 65536 := by
      by_cases x : 65536 < slot
      · exact absurd (.inr (.inr (.inl x))) hno
      · omega
    have x3 : (r.length : Int) = d.length := by
      by_cases x : (r.length : Int) = d.length
      · exact x
      · exact absurd (.inr (.inr (.inr (.inl x)))) hno
    have x4 : pageS d slot ≤ h.fin + 8 := by
      by_cases x : h.fin + 8 < pageS d slot
      · exact absurd (.inr (.inr (.inr (.inr (.inl x))))) hno
      · omega
    by_cases hp : pageS d slot ≤ h.fin
    · refine put_old19 p cap n m h d slot r w hs hn hm h0 x1 x2 x3 hp ?_
      by_cases x : (loadS m d (pageS d slot)).2 = 0
      · exact x
      · exact absurd (.inr (.inr (.inr (.inr (.inr ⟨hp, x⟩))))) hno
    · exact put_new19 p cap n m h d slot r w h0 x1 x2 x3 x4 (by omega)
end Go.Proofs.YtchgjopckmjmmaaDoor
