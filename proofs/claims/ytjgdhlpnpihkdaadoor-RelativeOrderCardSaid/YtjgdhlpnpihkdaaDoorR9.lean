/- The walk of package relative's Put, where it writes. -/
import Derived.Test.YtjgdhlpnpihkdaaDoorR8
import Derived.Test.YtjgdhlpnpihkdaaDoorX18
set_option linter.unusedSimpArgs false
set_option linter.unusedVariables false
namespace Go.Proofs.YtjgdhlpnpihkdaaDoor
open Go.RowKit Dsd

set_option maxRecDepth 100000 in
set_option maxHeartbeats 4000000 in
theorem rput_yes (p : Option Addr) (cap n : Nat) (m : List (List UInt8)) (h : Hd) (d : DS) (slot : Int) (r : List UInt8) (w : World) (hs : Strs w p m) (hn : m.length = n) (hm : Small m)
    (hd : doorOf h d 2 = 0) (h1 : 1 ≤ slot) (h2 : slot ≤ 65536) (h3 : (r.length : Int) = d.length) (hpf : pageS d slot ≤ h.fin + 8) (hl : pageS d slot ≤ h.fin → (loadS m d (pageS d slot)).2 = 0) :
    Calls Tryd.prog 36 #[mV p n cap, .agg #[.int .i64 h.applied, .int .i64 h.count, .int .i64 h.fin, .int .i64 h.root, .int .i64 h.height, .int .i64 h.splits, .int .i64 h.areas], .agg #[.int .i64 d.id, .int .i64 d.org, .int .i64 d.format, .int .i64 d.length, .int .i64 d.block, .int .i64 d.keyAt, .int .i64 d.keyLength, .int .i64 d.interval, .int .i64 d.area, .int .i64 d.freeInterval, .int .i64 d.freeArea, .int .i64 d.base, .int .i64 d.altAt, .int .i64 d.altLength, .bool d.unique, .int .i64 d.cls, .string ⟨d.volume.toArray⟩, .string ⟨d.owner.toArray⟩, .int .i64 d.created, .int .i64 d.expires, .bool d.archived], .int .i64 slot, .string ⟨r.toArray⟩] w (RelOut (putR m h d slot r) w) := by
  have hv := (door_zero hd).1
  have hpl := (door_zero hd).2.1
  obtain ⟨p1, p2, p3, p4⟩ := plain_spec hpl
  have Hop := Lib.hid (fun w => ropen_ok p n cap h d hd w)
  have HG := Lib.hid (putR_yes hd h1 h2 h3 hpf hl)
  obtain ⟨b1, b2, b3⟩ := putL_len hv h1 h2 hl
  have h1I : decide (slot < 1) = false := decide_eq_false (by omega)
  have h2I : decide (65536 < slot) = false := decide_eq_false (by omega)
  have h3I : ((r.length : Int) != d.length) = false := by simp; omega
  obtain ⟨_, _, a3, a4, a5, a6⟩ := place_go hv h1 h2
  have Hpl := Lib.hid (fun w => place_any (mV p n cap) h d hv slot h1 h2 w)
  have i8 : IntKind.i64.wrap (h.fin + 8) = h.fin + 8 := IntWalk.i64_in _ (by omega)
  have hpI : decide (h.fin + 8 < pageS d slot) = false := decide_eq_false (by omega)
  have HL : Hid (pageS d slot ≤ h.fin → ∀ w', Ext w w' → Calls Tryd.prog 69 #[.agg (rcCells (mV p n cap) h d), .int .i64 (pageS d slot)] w' fun e w2 => ∃ q2 c2, e = .returned (.tuple #[.slice q2 (putL m h d slot).length c2, .int .i64 0]) ∧ Ext w' w2 ∧ w2.ownsRow w'.heap.size 131 2 (.slice q2 (putL m h d slot).length c2) (putL m h d slot).length (slotCells (putL m h d slot))) :=
    Lib.hid (fun hp w' he => (rload_any p cap n m h d (pageS d slot) w' (hs.ext he) hn hm).mono fun e w2 ⟨he2, hc⟩ => by
      have e : putL m h d slot = (loadS m d (pageS d slot)).1 := by unfold putL; rw [if_pos hp]
      rw [e]
      rcases hc with ⟨x, _⟩ | ⟨_, q2, c2, x1, x2⟩
      · exact absurd (hl hp) x
      · exact ⟨q2, c2, x1, he2, x2⟩)
  have HL0 : Hid (h.fin < pageS d slot → putL m h d slot = List.replicate (nS d) (false, [])) := Lib.hid (fun hp => by unfold putL; rw [if_neg (by omega)])
  obtain ⟨n1, n2, n3⟩ := nS_pos hv
  have N3 := Lib.hid n3
  have B1 := Lib.hid b1
  have hmk := fun w => run_make_slots w (nS d) (by omega)
  clear n3 hd hpl hl hs b1
  generalize putL m h d slot = L at *
  obtain ⟨ix, hix⟩ : ∃ ix, ix = idxS d slot := ⟨_, rfl⟩
  rw [← hix] at b2 a5 a6 HG Hpl
  obtain ⟨pg, hpg⟩ : ∃ pg, pg = pageS d slot := ⟨_, rfl⟩
  rw [← hpg] at a3 a4 HG Hpl hpf hpI HL HL0
  clear hix hpg
  obtain ⟨H1, hH1⟩ : ∃ H1 : Hd, H1 = { h with count := if (slotAt L ix).1 then h.count else h.count + 1 } := ⟨_, rfl⟩
  obtain ⟨K, hK⟩ : ∃ K : Nat, K = (pg - 1 - h.fin).toNat := ⟨_, rfl⟩
  obtain ⟨FIN, hFIN⟩ : ∃ FIN : Int, FIN = if pg ≤ h.fin then h.fin else pg := ⟨_, rfl⟩
  have hcond : ∀ j : Nat, j ≤ K → decide (h.fin + (j : Int) + 1 < pg) = decide (j < K) := fun j hj => by
    have : (h.fin + (j : Int) + 1 < pg) ↔ j < K := by omega
    exact decide_eq_decide.2 this
  have hmaxF : ∀ a : Int, a = h.fin + (K : Int) → (max a pg = FIN) := fun a ha => by rw [hFIN]; split <;> omega
  have hKb : K ≤ 8 := by omega
  have HG2 : Hid (putR m h d slot r = ⟨{ H1 with fin := FIN }, freshS d h.fin K ++ [wrS d pg (L.set ix (true, r))], 0⟩) := Lib.hid (by rw [HG.out, hH1, hK, hFIN])
  have HH1 := Lib.hid hH1
  have Hcond := Lib.hid hcond
  have HmaxF := Lib.hid hmaxF
  clear HG hH1 hcond hmaxF hFIN hK
  go_enter Tryd.func36, Tryd.ntmps36
  go_upto_region 1 with (fail)
  refine wp_name (fun w0 => Ext w w0 ∧ HdAt w0 w.heap.size h ∧ DsAt w0 (w.heap.size + 1) d ∧ Blk w0 (w.heap.size + 1 + 1) (.cells #[.int .i64 0, .int .i64 0, .int .i64 0, .int .i64 0, .int .i64 0, .int .i64 0, .int .i64 0] 24)) (hd_ds_cl w h d _ _) ?_
  rintro w0 ⟨he0, hb1, hb2, hbr⟩
  go_upto_region 2 with (first
    | (refine wpList_ds rfl (.tmp 7) rfl _ rfl d hb2 ?_) | (refine wpList_hd rfl (.tmp 6) rfl _ rfl h hb1 ?_)
    | (go_at_call 67; refine (Hop.out _).mono ?_; rintro e w1 ⟨rfl, he1⟩)
    | (refine wpList_put rfl 122 (.tmp 13) (.tmp 24) rfl _ (rcCells (mV p n cap) h d) rfl rfl _ _ (Blk.new w1 _) rcSize rfl (rc_one p n cap h d) ?_; intro w3 hb3 hc3; have he3 := hc3.ext (Ext.alloc w1 _) (Nat.le_refl _)))
  have hE13 := he1.trans he3
  have hcb := Nat.lt_of_lt_of_le (Blk.lt hbr) he1.size
  have hcz : w1.heap.size < w3.heap.size := Blk.lt hb3
  refine wp_name (fun w5 => Ext w w5 ∧ HdAt w5 w.heap.size h ∧ DsAt w5 (w.heap.size + 1) d ∧ Blk w5 (w.heap.size + 1 + 1) (.cells #[.int .i64 0, .int .i64 0, .int .i64 0, .int .i64 0, .int .i64 0, .int .i64 0, .int .i64 0] 24) ∧ Blk w5 w1.heap.size (.cells (rcCells (mV p n cap) h d) 122)) ⟨he0.trans hE13, hb1.ext hE13, hb2.ext hE13, hE13.blk _ _ hbr, hb3⟩ ?_
  clear hb1 hb2 hbr hb3 he0 he1 he3 hE13 hc3 hcz
  generalize w1.heap.size = cb at *
  rintro w5 ⟨he5, hb1, hb2, hbr, hb3⟩
  have c3 : w5.cell? ⟨w.heap.size + 1, 3, none⟩ = some (.int .i64 d.length) := Blk.val hb2 3 _ rfl
  go_upto_region 7 with (first
    | (refine wpList_row rfl 122 (.tmp 13) rfl _ rfl _ _ _ hb3 rcDesc rfl rcSize ?_)
    | (go_at_call 68; refine (Hpl.out _).mono ?_; rintro e w6 ⟨rfl, he6⟩))
  have hb16 := hb1.ext he6
  have hbr6 := he6.blk _ _ hbr
  have hb36 := he6.blk _ _ hb3
  have HE6 := Lib.hid (he5.trans he6)
  have c2 : w6.cell? ⟨w.heap.size, 2, none⟩ = some (.int .i64 h.fin) := Blk.val hb16 2 _ rfl
  have c29 : w6.cell? ⟨cb, 29, none⟩ = some (.int .i64 ((nS d : Nat) : Int)) := by rw [N3.out]; exact Blk.val hb36 29 _ rfl
  have hcb6 : cb < w6.heap.size := Blk.lt hb36
  clear hb1 hb2 hbr hb3 he5 he6 c3
  go_upto_region 10 with (fail)
  have hx := Ext.alloc w6 (.cells (slotCells (List.replicate (nS d) (false, []))).toArray 131)
  have hsb : Blk (w6.alloc (.cells (slotCells (List.replicate (nS d) (false, []))).toArray 131)) w6.heap.size (.cells (slotCells (List.replicate (nS d) (false, []))).toArray 131) := Blk.new _ _
  generalize w6.alloc (.cells (slotCells (List.replicate (nS d) (false, []))).toArray 131) = w7 at *
  have Hb1 := Lib.hid (hb16.ext hx)
  have Hbr := Lib.hid (hx.blk _ _ hbr6)
  have Hb3 := Lib.hid (hx.blk _ _ hb36)
  have HE7 := Lib.hid (HE6.out.trans hx)
  have Hsb := Lib.hid hsb
  have hcz7 := hx.size
  have c2 : w7.cell? ⟨w.heap.size, 2, none⟩ = some (.int .i64 h.fin) := Blk.val Hb1.out 2 _ rfl
  have hlt7 : w.heap.size < w7.heap.size := Blk.lt Hb1.out
  have h7b : w6.heap.size < w7.heap.size := Blk.lt hsb
  clear hb16 hbr6 hb36 hx c29 hsb hmk
  generalize w6.heap.size = B6 at *
  go_upto_if 62 with (fail)
  go_cut [17] (fun v wx => Ext w wx ∧ HdAt wx w.heap.size h ∧ Blk wx (w.heap.size + 1 + 1) (.cells #[.int .i64 0, .int .i64 0, .int .i64 0, .int .i64 0, .int .i64 0, .int .i64 0, .int .i64 0] 24) ∧ Blk wx cb (.cells (rcCells (mV p n cap) h d) 122) ∧ wx.ownsRow B6 131 2 v L.length (slotCells L))
  case first =>
    by_cases hp : pg ≤ h.fin
    · have hpI2 : decide (pg ≤ h.fin) = true := decide_eq_true hp
      have HL2 := Lib.hid (HL.out hp)
      go_wp2_with (first
        | (refine wpList_row rfl 122 (.tmp 13) rfl _ rfl _ _ _ Hb3.out rcDesc rfl rcSize ?_)
        | (go_at_call 69; refine (HL2.out _ HE7.out).mono ?_; rintro e w8 ⟨q2, cq2, rfl, he8, hown8⟩))
      go_meet
      exact ⟨HE7.out.trans he8, Hb1.out.ext he8, he8.blk _ _ Hbr.out, he8.blk _ _ Hb3.out, own_le hown8 (Nat.le_of_lt h7b)⟩
    · have hpI2 : decide (pg ≤ h.fin) = false := decide_eq_false hp
      have hp2 : h.fin < pg := by omega
      have HLx := Lib.hid (HL0.out hp2)
      go_wp2_with fail
      go_meet
      exact ⟨HE7.out, Hb1.out, Hbr.out, Hb3.out, by rw [HLx.out, List.length_replicate]; exact blk_own Hsb.out (Nat.le_refl _) (by simp) (by unfold maxLen; omega)⟩
  case rest =>
    obtain ⟨hex, hb1, hbr, hb3, hown⟩ := hcut
    obtain ⟨q2, cq2, rfl⟩ := own_slice hown
    have Hb1 := Lib.hid hb1
    have Hbr := Lib.hid hbr
    have Hb3 := Lib.hid hb3
    have HEx := Lib.hid hex
    obtain ⟨g, rfl, hg1, hg2, hf1, hf2, hc1, hc2, _⟩ := own_setS hown ix b2
    have Hown := Lib.hid hown
    have hixI : (ix : Int) < L.length := by omega
    have c1 : wc.cell? ⟨w.heap.size, 1, none⟩ = some (.int .i64 h.count) := Blk.val hb1 1 _ rfl
    have f1 : wc.frozen? ⟨w.heap.size, 1, none⟩ = false := Blk.free hb1 1
    have i9 : IntKind.i64.wrap (h.count + 1) = h.count + 1 := IntWalk.i64_in _ (by omega)
    have hltc : w.heap.size < wc.heap.size := Blk.lt hb1
    clear hb1 hbr hb3 hex hown hf1 hf2 hc2 c2
    go_upto_if 78 with (fail)
    go_cut [17] (fun v wx => v = .slice (some ⟨g, 0, none⟩) L.length cq2 ∧ Ext w wx ∧ HdAt wx w.heap.size H1 ∧ Blk wx (w.heap.size + 1 + 1) (.cells #[.int .i64 0, .int .i64 0, .int .i64 0, .int .i64 0, .int .i64 0, .int .i64 0, .int .i64 0] 24) ∧ Blk wx cb (.cells (rcCells (mV p n cap) h d) 122) ∧ wx.ownsRow B6 131 2 v L.length (slotCells L))
    case first =>
      have e := HH1.out
      cases hu : (slotAt L ix).1
      · rw [hu] at hc1 e
        go_wp2_with fail
        go_meet
        have hcx : Chg w.heap.size wc (wc.setCell ⟨w.heap.size, 1, none⟩ (.int .i64 (h.count + 1))) := Chg.setCell
        exact ⟨rfl, hcx.ext HEx.out (Nat.le_refl _), by rw [e]; exact Blk.setCell Hb1.out, hcx.blk Hbr.out (by omega), hcx.blk Hb3.out (blk_ne Hb3.out Hb1.out (by decide)), own_chgT Hown.out (by decide) Hb1.out hcx⟩
      · rw [hu] at hc1 e
        go_wp2_with fail
        go_meet
        exact ⟨rfl, HEx.out, by rw [e]; exact Hb1.out, Hbr.out, Hb3.out, Hown.out⟩
    case rest =>
      obtain ⟨rfl, hex, hb1, hbr, hb3, hown⟩ := hcut
      obtain ⟨B, hB⟩ : ∃ B, B = wc.heap.size := ⟨_, rfl⟩
      have hH1f : H1.fin = h.fin := by rw [HH1.out]
      have HBB := Lib.hid hB
      have HStart : Hid (Ext w wc ∧ HdAt wc w.heap.size { H1 with fin := h.fin + ((0 : Nat) : Int) } ∧ Blk wc (w.heap.size + 1 + 1) (.cells #[.int .i64 0, .int .i64 0, .int .i64 0, .int .i64 0, .int .i64 0, .int .i64 0, .int .i64 0] 24) ∧ Blk wc cb (.cells (rcCells (mV p n cap) h d) 122) ∧ wc.ownsRow B6 131 2 (.slice (some ⟨g, 0, none⟩) L.length cq2) L.length (slotCells L) ∧ wc.ownsRow B 72 2 (.slice none 0 0) 0 (wrCells (freshS d h.fin 0)) ∧ B ≤ wc.heap.size) := Lib.hid ⟨hex, by rw [show h.fin + ((0 : Nat) : Int) = H1.fin by rw [hH1f]; simp]; exact hb1, hbr, hb3, hown, World.ownsRow_nil _ _ _ _, by omega⟩
      have hgB : g < B := by
        obtain ⟨g', hg', _, hz, _⟩ := own_setS hown ix b2
        simp at hg'; subst hg'; rw [hB]; exact hz
      have hcbB : cb < B := by rw [hB]; exact Blk.lt hb3
      have hrbB : w.heap.size + 1 + 1 < B := by rw [hB]; exact Blk.lt hbr
      clear hex hb1 hbr hb3 hown hH1f hB Hb1 Hbr Hb3 HEx Hown c1 f1 hltc hc1 hg1 hg2
      go_upto_region 17 with (fail)
      go_loopw [18] (fun v wr => ∃ j : Nat, j ≤ K ∧ Ext w wr ∧ HdAt wr w.heap.size { H1 with fin := h.fin + (j : Int) } ∧ Blk wr (w.heap.size + 1 + 1) (.cells #[.int .i64 0, .int .i64 0, .int .i64 0, .int .i64 0, .int .i64 0, .int .i64 0, .int .i64 0] 24) ∧ Blk wr cb (.cells (rcCells (mV p n cap) h d) 122) ∧ wr.ownsRow B6 131 2 (.slice (some ⟨g, 0, none⟩) L.length cq2) L.length (slotCells L) ∧ wr.ownsRow B 72 2 v j (wrCells (freshS d h.fin j)) ∧ B ≤ wr.heap.size) (fun v _ => K - sliceLen v)
      case atStart => exact ⟨0, Nat.zero_le _, HStart.out⟩
      case round =>
        obtain ⟨j, hj, hex, hb1, hbr, hb3, hown, hrow, hBz⟩ := hrel
        obtain ⟨qo, co, rfl⟩ := own_slice hrow
        have c2 : wr.cell? ⟨w.heap.size, 2, none⟩ = some (.int .i64 (h.fin + (j : Int))) := Blk.val hb1 2 _ rfl
        have f2 : wr.frozen? ⟨w.heap.size, 2, none⟩ = false := Blk.free hb1 2
        have i1 : IntKind.i64.wrap (h.fin + (j : Int) + 1) = h.fin + (j : Int) + 1 := IntWalk.i64_in _ (by omega)
        have hcI := Hcond.out j hj
        have hltr : w.heap.size < wr.heap.size := Blk.lt hb1
        have Hex := Lib.hid hex
        have Hb1 := Lib.hid hb1
        have Hbr := Lib.hid hbr
        have Hb3 := Lib.hid hb3
        have Hown := Lib.hid hown
        have Hrow := Lib.hid hrow
        clear hex hb1 hbr hb3 hown hrow
        by_cases hlt : j < K
        · have hcT : h.fin + (j : Int) + 1 < pg := by simpa [hlt] using hcI
          rw [show decide (j < K) = true from decide_eq_true hlt] at hcI
          go_upto_region 19 with (fail)
          have hcx : Chg w.heap.size wr (wr.setCell ⟨w.heap.size, 2, none⟩ (.int .i64 (h.fin + (j : Int) + 1))) := Chg.setCell
          refine wp_name (fun w8 => Ext w w8 ∧ HdAt w8 w.heap.size { H1 with fin := h.fin + (j : Int) + 1 } ∧ Blk w8 (w.heap.size + 1 + 1) (.cells #[.int .i64 0, .int .i64 0, .int .i64 0, .int .i64 0, .int .i64 0, .int .i64 0, .int .i64 0] 24) ∧ Blk w8 cb (.cells (rcCells (mV p n cap) h d) 122) ∧ w8.ownsRow B6 131 2 (.slice (some ⟨g, 0, none⟩) L.length cq2) L.length (slotCells L) ∧ w8.ownsRow B 72 2 (.slice qo j co) j (wrCells (freshS d h.fin j)) ∧ B ≤ w8.heap.size) ⟨hcx.ext Hex.out (Nat.le_refl _), Blk.setCell Hb1.out, hcx.blk Hbr.out (by omega), hcx.blk Hb3.out (blk_ne Hb3.out Hb1.out (by decide)), own_chgT Hown.out (by decide) Hb1.out hcx, own_chgT Hrow.out (by decide) Hb1.out hcx, by rw [hcx.size]; exact hBz⟩ ?_
          clear hcx c2 f2 Hex Hb1 Hbr Hb3 Hown Hrow hBz hltr
          rintro w8 ⟨hex, hb1, hbr, hb3, hown, hrow, hBz⟩
          have c2 : w8.cell? ⟨w.heap.size, 2, none⟩ = some (.int .i64 (h.fin + (j : Int) + 1)) := Blk.val hb1 2 _ rfl
          have Hwr := Lib.hid (fun w' => write_any (mV p n cap) h d (h.fin + (j : Int) + 1) none 0 0 [] rfl (by omega) w' (.inl rfl))
          have HF : Hid (freshS d h.fin (j + 1) = freshS d h.fin j ++ [(h.fin + (j : Int) + 1, esStr d.interval d.length [])]) := Lib.hid (by rw [freshS_succ]; unfold wrS; rw [show h.fin + 1 + (j : Int) = h.fin + (j : Int) + 1 by omega])
          generalize esStr d.interval d.length [] = es at *
          have Hex := Lib.hid hex
          have Hb1 := Lib.hid hb1
          have Hbr := Lib.hid hbr
          have Hown := Lib.hid hown
          have Hrow := Lib.hid hrow
          clear hex hb1 hbr hown hrow
          go_wp2_with (first
            | (refine wpList_row rfl 122 (.tmp 13) rfl _ rfl _ _ _ hb3 rcDesc rfl rcSize ?_)
            | (go_at_call 70; refine (Hwr.out _).mono ?_; rintro e w9 ⟨rfl, he9⟩; have hz9 := he9.size)
            | (at_builtin; go_must (refine wpList_app rfl (.tmp 92) (.tmp 97) 31 72 rfl B (.agg #[.int .i64 0, .string ByteArray.empty]) 2 24 Tryd.underlying31 infoWrite rfl (by decide) _ _ _ rfl ((own_ext Hrow.out he9).alloc _) _ [_, _] rfl (Blk.new _ _) rfl (by intro u hu; simp at hu; rcases hu with rfl | rfl <;> rfl) (by omega) (by decide) (by simp; omega) ?_; intro v' w10 hown10 hgr; have hbel := Below.of_grown (B := B) hgr ((own_ext Hrow.out he9).alloc _) (Nat.le_refl _) (by simp; omega); have hz10 := hgr.size; simp at hz10; clear hgr)))
          have heA : Ext w8 (w9.alloc (.cells #[.int .i64 (h.fin + (j : Int) + 1), .string ⟨es.toArray⟩] 72)) := he9.trans (Ext.alloc _ _)
          go_roundw
          case rel => exact ⟨j + 1, by omega, Ext.trans' (Hex.out.trans heA) (Below.mono hbel (by omega)), by rw [show h.fin + ((j + 1 : Nat) : Int) = h.fin + (j : Int) + 1 by omega]; exact Blk.below (heA.blk _ _ Hb1.out) hbel (by omega), Blk.below (heA.blk _ _ Hbr.out) hbel (by omega), Blk.below (heA.blk _ _ hb3) hbel (by omega), own_below (own_ext Hown.out heA) hbel hgB, by rw [HF.out, wrCells_snoc]; exact hown10, by omega⟩
          case measure =>
            obtain ⟨q', c', rfl⟩ := own_slice hown10
            simp [sliceLen]; omega
        · obtain rfl : j = K := by omega
          have hcT : ¬ h.fin + (j : Int) + 1 < pg := by simpa using hcI
          rw [show decide (j < j) = false by simp] at hcI
          have hmx := HmaxF.out (h.fin + (j : Int)) rfl
          have hmx2 : (if h.fin + (j : Int) ≤ pg then pg else h.fin + (j : Int)) = FIN := by rw [← hmx]; rfl
          have hmx3 : (if h.fin + (j : Int) < pg then pg else h.fin + (j : Int)) = FIN := by rw [← hmx]; split <;> omega
          have HMx := Lib.hid hmx
          go_upto_region 21 with (fail)
          have hcx : Chg w.heap.size wr (wr.setCell ⟨w.heap.size, 2, none⟩ (.int .i64 FIN)) := Chg.setCell
          obtain ⟨H2, hH2⟩ : ∃ H2 : Hd, H2 = { H1 with fin := FIN } := ⟨_, rfl⟩
          rw [← hH2] at HG2
          refine wp_name (fun w8 => Ext w w8 ∧ HdAt w8 w.heap.size H2 ∧ Blk w8 (w.heap.size + 1 + 1) (.cells #[.int .i64 0, .int .i64 0, .int .i64 0, .int .i64 0, .int .i64 0, .int .i64 0, .int .i64 0] 24) ∧ Blk w8 cb (.cells (rcCells (mV p n cap) h d) 122) ∧ w8.ownsRow B6 131 2 (.slice (some ⟨g, 0, none⟩) L.length cq2) L.length (slotCells L) ∧ w8.ownsRow B 72 2 (.slice qo j co) j (wrCells (freshS d h.fin j)) ∧ B ≤ w8.heap.size) ⟨hcx.ext Hex.out (Nat.le_refl _), by rw [hH2]; exact Blk.setCell Hb1.out, hcx.blk Hbr.out (by omega), hcx.blk Hb3.out (blk_ne Hb3.out Hb1.out (by decide)), own_chgT Hown.out (by decide) Hb1.out hcx, own_chgT Hrow.out (by decide) Hb1.out hcx, by rw [hcx.size]; exact hBz⟩ ?_
          clear hcx c2 f2 Hex Hb1 Hbr Hb3 Hown Hrow hBz hltr hH2 hmx hmx2 hmx3 hcI hcT i1
          rintro w8 ⟨hex, hb1, hbr, hb3, hown, hrow, hBz⟩
          obtain ⟨g', hgg, hg1, hg2, hf1, hf2, hc1, hc2, hset⟩ := own_setS hown ix b2
          simp at hgg
          obtain rfl := hgg
          obtain ⟨hown9, hcx, cs, hbg⟩ := hset true r
          go_upto_region 22 with (fail)
          refine wp_name (fun w9 => Ext w w9 ∧ HdAt w9 w.heap.size H2 ∧ Blk w9 (w.heap.size + 1 + 1) (.cells #[.int .i64 0, .int .i64 0, .int .i64 0, .int .i64 0, .int .i64 0, .int .i64 0, .int .i64 0] 24) ∧ Blk w9 cb (.cells (rcCells (mV p n cap) h d) 122) ∧ Slts w9 (some ⟨g, 0, none⟩) (L.set ix (true, r)) ∧ w9.ownsRow B 72 2 (.slice qo j co) j (wrCells (freshS d h.fin j)) ∧ B ≤ w9.heap.size) ⟨hcx.ext hex (by omega), hcx.blk hb1 (blk_ne hb1 hbg (by decide)), hcx.blk hbr (blk_ne hbr hbg (by decide)), hcx.blk hb3 (blk_ne hb3 hbg (by decide)), (by
            obtain ⟨p', c', hv', hsl, _⟩ := own_slts (L := L.set ix (true, r)) (by simpa using hown9)
            simp at hv'
            obtain ⟨rfl, _⟩ := hv'
            exact hsl), own_chgT hrow (by decide) hbg hcx, by rw [hcx.size]; exact hBz⟩ ?_
          clear hex hb1 hbr hb3 hown hrow hBz hset hown9 hcx hbg hf1 hf2 hc1 hc2 hg1 hg2
          rintro w9 ⟨he9, hb1, hbr, hb3, hsl, hrow, hBz⟩
          have Hwr := Lib.hid (fun w' (he : Ext w9 w') => write_any (mV p n cap) h d pg (some ⟨g, 0, none⟩) cq2 L.length (L.set ix (true, r)) (by simp) (by omega) w' (hsl.ext he))
          have HW : Hid (wrS d pg (L.set ix (true, r)) = (pg, esStr d.interval d.length (L.set ix (true, r)))) := Lib.hid rfl
          rw [HW.out] at HG2
          have HWl : Hid ((freshS d h.fin j).length = j) := Lib.hid (freshS_len d h.fin j)
          generalize esStr d.interval d.length (L.set ix (true, r)) = es at *
          generalize freshS d h.fin j = WL at *
          have HEx := Lib.hid he9
          have HbV := Lib.hid hb1
          have HbR := Lib.hid hbr
          have HbC := Lib.hid hb3
          have Hrow := Lib.hid hrow
          have HBz := Lib.hid hBz
          clear hsl he9 hb1 hbr hb3 HW hrow hBz
          refine Pre.wp_region_pk 8 [(7, [(6, 115)])] ((cutW_ext w9 B)) (by kernel_rfl) (by kernel_rfl) (by kernel_rfl) (by kernel_rfl) (by kernel_rfl) (by kernel_rfl) (gok_app (cutW w9 B) B (cutW_size HBz.out) _ 7 6 115) (fun _ => prok_app (w3 := w9)) (fun p hp => Ext.refl w9) ?_
          simp only [List.take_succ_cons, List.take_zero, List.take_nil, List.drop_succ_cons, List.drop_zero, List.drop_nil, List.map_cons, List.map_nil]
          repeat (first
            | (refine Pre.wpPL_det (o := ⟨some 109, _, _, _, _, _⟩) (v := .agg (#[.int .i64 H2.applied, .int .i64 H2.count, .int .i64 H2.fin, .int .i64 H2.root, .int .i64 H2.height, .int .i64 H2.splits, .int .i64 H2.areas])) (fun k v => Pre.KeepsP.is _ _ _ _ k v) (by kernel_rfl) (by first | exact .inl rfl | exact .inr ⟨_, _, _, rfl, rfl, rfl⟩) ?_ ?_
               · intro a w' he0 hp hr K hK
                 simp [Reads, Oper.looksAt, Op.operands, factAt, Is] at hr
                 exact wp_load_row 24 (.tmp 6) rfl (w.heap.size) (by go_simp) _ _ _ _ (Ext.blk he0 _ _ (cutW_blk HbV.out (by omega))) hdDesc rfl hdSize (hK _ (Ext.refl _))
               simp only [setL, List.set_cons_succ, List.set_cons_zero])
            | (refine Pre.wpPL_det (o := ⟨some 111, _, _, _, _, _⟩) (v := .agg (rcCells (mV p n cap) h d)) (fun k v => Pre.KeepsP.is _ _ _ _ k v) (by kernel_rfl) (by first | exact .inl rfl | exact .inr ⟨_, _, _, rfl, rfl, rfl⟩) ?_ ?_
               · intro a w' he0 hp hr K hK
                 have he := hp 7 (by kernel_rfl) (by kernel_rfl)
                 simp [Reads, Oper.looksAt, Op.operands, factAt, Is] at hr
                 exact wp_load_row 122 (.tmp 13) rfl (cb) (by go_simp) _ _ _ _ (Ext.blk he _ _ HbC.out) rcDesc rfl rcSize (hK _ (Ext.refl _))
               simp only [setL, List.set_cons_succ, List.set_cons_zero])
            | (refine Pre.wpPL_step (o := ⟨some 115, _, _, _, _, _⟩) (Fresh 1 1 (.cells #[.int .i64 pg, .string ⟨es.toArray⟩] 72)) (Fresh.stable _ _ _) (keepW (.inl (by kernel_rfl))) (by kernel_rfl) (by first | exact .inl rfl | exact .inr ⟨_, _, _, rfl, rfl, rfl⟩) ?_ ?_
               · intro a w' he0 hp hr K hK
                 simp [Reads, Oper.looksAt, Op.operands, Call.operands, factAt, Is] at hr
                 go_simp
                 exact hK _ _ (Ext.alloc _ _) (Fresh.new _ _ _ _)
               simp only [setL, List.set_cons_succ, List.set_cons_zero])
            | (refine Pre.wpPL_pivot (o := ⟨some 116, _, _, _, _, _⟩) (RowsF 72 (B) 2 (j + 1) (wrCells (WL) ++ [.int .i64 pg, .string ⟨es.toArray⟩])) (RowsF.stable _ _ _ _ _) (keepW (.inl (by kernel_rfl))) (by kernel_rfl) (by first | exact .inl rfl | exact .inr ⟨_, _, _, rfl, rfl, rfl⟩) ?_ ?_
               · intro a w' he0 hp hr K hK
                 have he := hp 7 (by kernel_rfl) (by kernel_rfl)
                 have h1 := hr 110 (by simp [Oper.looksAt, Op.operands, Call.operands])
                 obtain ⟨b, hb1, hb2⟩ := hr 115 (by simp [Oper.looksAt, Op.operands, Call.operands])
                 have hbase : B ≤ w'.heap.size := Nat.le_trans HBz.out (Ext.size he)
                 refine wp_app (.tmp 110) (.tmp 115) 31 72 rfl (B) _ 2 24 Tryd.underlying31 infoWrite rfl (by decide) _ (j) _ h1 (own_ext Hrow.out he) b [.int .i64 pg, .string ⟨es.toArray⟩] hb1 hb2 rfl (by intro u hu; simp at hu; rcases hu with rfl | rfl <;> rfl) (by omega) (by decide) hbase ?_
                 intro v' w'' ho' hg
                 obtain ⟨q', c', rfl⟩ := own_slice ho'
                 exact hK _ _ (rw_of hg (own_ext Hrow.out he) hbase) ⟨q', c', rfl, ho'⟩ (fun x hx hxi y hy => by simp at hx; subst hx; trivial)
               simp only [setL, List.set_cons_succ, List.set_cons_zero])
            | (refine Pre.wpPL_move _ _ (by kernel_rfl) (by first | exact .inl rfl | exact .inr ⟨_, _, _, rfl, rfl, rfl⟩) (by first | exact .inl rfl | exact .inr rfl) rfl (by first | exact Is.stable _ | exact RowsF.stable _ _ _ _ _ | exact NoneF.stable _ _ | exact Fresh.stable _ _ _ | exact AppF.stable _ | exact WrF.stable _ | exact PtrF.stable _ _ | exact PlF.stable _ _) (by first | exact Pre.KeepsP.is _ _ _ _ _ _ ) ?_
               simp only [setL, List.set_cons_succ, List.set_cons_zero, List.getD_cons_succ, List.getD_cons_zero])
            | (apply Pre.wpPL_det (fun k v => Pre.KeepsP.is _ _ _ _ k v) (by kernel_rfl) (by first | exact .inl rfl | exact .inr ⟨_, _, _, rfl, rfl, rfl⟩)
               · intro a w' he0 hp hr K hK
                 have he := hp 7 (by kernel_rfl) (by kernel_rfl)
                 simp [Reads, Oper.looksAt, Op.operands, Call.operands, factAt, Is] at hr
                 have hx := he.cell
                 go_simp
                 try go_bits
                 try (rw [if_neg (by omega)]; go_simp)
                 first
                   | exact hK _ (Ext.refl _)
                   | (refine (Hwr.out _ he).mono ?_; rintro e w'' ⟨rfl, he'⟩; exact hK _ he')
               simp only [setL, List.set_cons_succ, List.set_cons_zero]))
          intro w2 he2
          simp only [killL, killIn, List.foldl_cons, List.foldl_nil, List.set_cons_succ, List.set_cons_zero]
          repeat (first | with_reducible refine rest_is _ _ _ _ ?_ | (with_reducible refine rest_fact _ _ _ _ ?_; intro _ _) | with_reducible refine rest_end _ _ ?_)
          simp only [List.reverse_cons, List.reverse_nil, List.nil_append, List.cons_append]
          rename_i x115 h115 x116 h116
          obtain ⟨q, c, rfl, horow⟩ := h116
          clear h115
          have heW : Ext w w2 := (cutW_of HEx.out (by omega) HBz.out).trans he2
          have hbr2 := he2.blk _ _ (cutW_blk (B := B) HbR.out (by omega))
          go_wp2_with (first
            | (refine wpList_put rfl 24 (.tmp 10) (.tmp 109) rfl _ #[.int .i64 H2.applied, .int .i64 H2.count, .int .i64 H2.fin, .int .i64 H2.root, .int .i64 H2.height, .int .i64 H2.splits, .int .i64 H2.areas] rfl rfl _ _ hbr2 hdSize rfl (hd_one H2) ?_; intro w10 hb10 hc10))
          have ho10 := own_chgT horow (by decide) hbr2 hc10
          have e : wrCells WL ++ [.int .i64 pg, .string ⟨es.toArray⟩] = wrCells (WL ++ [(pg, es)]) := (wrCells_snoc WL (pg, es)).symm
          rw [e] at ho10
          obtain ⟨q', c', hv', hwr, hlen⟩ := own_wrts ho10
          simp at hv'
          obtain ⟨rfl, rfl⟩ := hv'
          exact bodyPost_ret (results_row2 Tryd.results36 _ _ _ _ _ _ rfl hb10 hdDesc rfl hdSize) rfl (relOut_yes (hc10.ext heW (by omega)) HG2.out hlen.symm hwr)

/-- Put, for all inputs. -/
theorem rput_any (p : Option Addr) (cap n : Nat) (m : List (List UInt8)) (h : Hd) (d : DS) (slot : Int) (r : List UInt8) (w : World) (hs : Strs w p m) (hn : m.length = n) (hm : Small m) (hrl : r.length ≤ 1000000) :
    Calls Tryd.prog 36 #[mV p n cap, .agg #[.int .i64 h.applied, .int .i64 h.count, .int .i64 h.fin, .int .i64 h.root, .int .i64 h.height, .int .i64 h.splits, .int .i64 h.areas], .agg #[.int .i64 d.id, .int .i64 d.org, .int .i64 d.format, .int .i64 d.length, .int .i64 d.block, .int .i64 d.keyAt, .int .i64 d.keyLength, .int .i64 d.interval, .int .i64 d.area, .int .i64 d.freeInterval, .int .i64 d.freeArea, .int .i64 d.base, .int .i64 d.altAt, .int .i64 d.altLength, .bool d.unique, .int .i64 d.cls, .string ⟨d.volume.toArray⟩, .string ⟨d.owner.toArray⟩, .int .i64 d.created, .int .i64 d.expires, .bool d.archived], .int .i64 slot, .string ⟨r.toArray⟩] w (RelOut (putR m h d slot r) w) := by
  by_cases hno : doorOf h d 2 ≠ 0 ∨ slot < 1 ∨ 65536 < slot ∨ (r.length : Int) ≠ d.length ∨ h.fin + 8 < pageS d slot ∨ (pageS d slot ≤ h.fin ∧ (loadS m d (pageS d slot)).2 ≠ 0)
  · exact rput_no p cap n m h d slot r w hs hn hm hrl hno
  · have h0 : doorOf h d 2 = 0 := by
      by_cases x : doorOf h d 2 = 0
      · exact x
      · exact absurd (.inl x) hno
    refine rput_yes p cap n m h d slot r w hs hn hm h0 ?_ ?_ ?_ ?_ ?_
    · by_cases x : slot < 1
      · exact absurd (.inr (.inl x)) hno
      · omega
    · by_cases x : 65536 < slot
      · exact absurd (.inr (.inr (.inl x))) hno
      · omega
    · by_cases x : (r.length : Int) = d.length
      · exact x
      · exact absurd (.inr (.inr (.inr (.inl x)))) hno
    · by_cases x : h.fin + 8 < pageS d slot
      · exact absurd (.inr (.inr (.inr (.inr (.inl x))))) hno
      · omega
    · intro hp
      by_cases x : (loadS m d (pageS d slot)).2 = 0
      · exact x
      · exact absurd (.inr (.inr (.inr (.inr (.inr ⟨hp, x⟩))))) hno
end Go.Proofs.YtjgdhlpnpihkdaaDoor
