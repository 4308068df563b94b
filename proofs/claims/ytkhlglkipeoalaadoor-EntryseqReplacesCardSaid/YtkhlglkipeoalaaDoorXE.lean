/- The reference's Get; a store into a row of one's own; Replace of the program and of the reference. -/
import Derived.Test.YtkhlglkipeoalaaDoorX15
set_option linter.unusedSimpArgs false
set_option linter.unusedVariables false
namespace Go.Proofs.YtkhlglkipeoalaaDoor
open Go.RowKit Dsd

set_option maxRecDepth 100000 in
set_option maxHeartbeats 1000000 in
theorem Get_ref (p : Option Addr) (n cap : Nat) (m : List (List UInt8)) (h : Hd) (d : DS) (a : Int) (hwr : ∀ s : Int, 0 < s → IntKind.i64.wrap (a.tdiv s) = a.tdiv s) (w : World) (hs : Strs w p m) (hn : m.length = n) (hm : Small m) :
    Calls Tryd.prog 30 #[.slice p n cap, .agg #[.int .i64 h.applied, .int .i64 h.count, .int .i64 h.fin, .int .i64 h.root, .int .i64 h.height, .int .i64 h.splits, .int .i64 h.areas], .agg #[.int .i64 d.id, .int .i64 d.org, .int .i64 d.format, .int .i64 d.length, .int .i64 d.block, .int .i64 d.keyAt, .int .i64 d.keyLength, .int .i64 d.interval, .int .i64 d.area, .int .i64 d.freeInterval, .int .i64 d.freeArea, .int .i64 d.base, .int .i64 d.altAt, .int .i64 d.altLength, .bool d.unique, .int .i64 d.cls, .string ⟨d.volume.toArray⟩, .string ⟨d.owner.toArray⟩, .int .i64 d.created, .int .i64 d.expires, .bool d.archived], .int .i64 a] w fun e w' => e = .returned (.tuple #[.string ⟨(getOf m h d a).1.toArray⟩, .int .i64 (getOf m h d a).2]) ∧ Ext w w' := by
  have Hs := Lib.hid hs
  by_cases hdo : doorOf h d 1 = 0
  · have HR := Lib.hid (show getOf m h d a = if (findOf m d.interval h.fin a).2.2 ≠ 0 then ([], (findOf m d.interval h.fin a).2.2) else ((findOf m d.interval h.fin a).1.getD (findOf m d.interval h.fin a).2.1 [], 0) by unfold getOf; rw [if_neg (by simp [hdo])])
    have Hfi := Lib.hid (fun w hs => find_ref p n cap m h d a hwr w hs hn hm hdo)
    have Hlt := Lib.hid (@findOf_lt m d.interval h.fin a)
    clear hs hwr hdo
    go_enter Tryd.func30, Tryd.ntmps30
    go_upto_region 1 with (fail)
    refine wp_name (fun w0 => Ext w w0 ∧ HdAt w0 w.heap.size h ∧ DsAt w0 (w.heap.size + 1) d) (hd_ds w h d) ?_
    rintro w0 ⟨he0, hb1, hb2⟩
    go_wp2_with (first | (refine wpList_ds rfl (.tmp 6) rfl _ rfl d hb2 ?_) | (refine wpList_hd rfl (.tmp 5) rfl _ rfl h hb1 ?_))
    refine (Hfi.out _ (Hs.out.ext he0)).mono ?_
    rintro e w3 ⟨he3, q, k, c, rfl, hk, hown, hsm⟩
    generalize findOf m d.interval h.fin a = R at *
    obtain ⟨L, i, x⟩ := R
    simp only at hk hown hsm
    subst hk
    by_cases hx : x = 0
    · subst hx
      have hi : i < L.length := Hlt.out rfl
      have hiI : (i : Int) < L.length := by omega
      have hsq : Strs w3 q L := by
        obtain ⟨q', k', he, hq, _⟩ := own_strs2 hown
        simp at he; obtain ⟨rfl, rfl⟩ := he; exact hq
      obtain ⟨b, o, rfl, hb, hc⟩ := hsq.at i hi
      have hci := hc i hi
      have HR2 : Hid (getOf m h d a = (L.getD i [], 0)) := Lib.hid (by rw [HR.out]; simp)
      have hll : L.length ≤ 1000000 := hsm.1
      clear hc hsq hown hsm
      generalize L.getD i [] = s at *
      go_wp2
      go_ret2
      exact ⟨ret_page (by rw [HR2.out]) (by rw [HR2.out]), he0.trans he3⟩
    · have hxI : (x != 0) = true := by simpa using hx
      have HR2 : Hid (getOf m h d a = ([], x)) := Lib.hid (by rw [HR.out]; simp [hx])
      clear hx hown hsm
      go_wp2
      go_ret2
      exact ⟨ret_page (by rw [HR2.out]) (by rw [HR2.out]), he0.trans he3⟩
  · have HR : Hid (getOf m h d a = ([], doorOf h d 1)) := Lib.hid (by unfold getOf; rw [if_pos hdo])
    have hdI : (doorOf h d 1 != 0) = true := by simpa using hdo
    have Hfi := Lib.hid (fun w => find_ref_door p n cap h d a w hdo)
    generalize doorOf h d 1 = c at *
    clear hdo hs
    go_enter Tryd.func30, Tryd.ntmps30
    go_upto_region 1 with (fail)
    refine wp_name (fun w0 => Ext w w0 ∧ HdAt w0 w.heap.size h ∧ DsAt w0 (w.heap.size + 1) d) (hd_ds w h d) ?_
    rintro w0 ⟨he0, hb1, hb2⟩
    go_wp2_with (first | (refine wpList_ds rfl (.tmp 6) rfl _ rfl d hb2 ?_) | (refine wpList_hd rfl (.tmp 5) rfl _ rfl h hb1 ?_))
    refine (Hfi.out _).mono ?_
    rintro e w3 ⟨rfl, he3⟩
    go_wp2
    go_ret2
    exact ⟨ret_page (by rw [HR.out]) (by rw [HR.out]), he0.trans he3⟩

/-- A store into a row of one's own. -/
theorem own_set {w : World} {base : Nat} {e : TypeId} {q : Option Addr} {n c : Nat} {xs : List Value} (h : w.ownsRow base e 1 (.slice q n c) n xs) (i : Nat) (hi : i < n) :
    ∃ g, q = some ⟨g, 0, none⟩ ∧ base ≤ g ∧ g < w.heap.size ∧ w.frozen? ⟨g, i, none⟩ = false ∧ w.cell? ⟨g, i, none⟩ = some (xs.getD i undef) ∧ ∀ u, (w.setCell ⟨g, i, none⟩ u).ownsRow base e 1 (.slice q n c) n (xs.set i u) ∧ Below base w (w.setCell ⟨g, i, none⟩ u) := by
  obtain ⟨hl, ⟨h1, h2⟩ | ⟨g, cap, cur, h1, h2, h3, h4, h5, h6, h7⟩⟩ := h
  · omega
  · simp at h1
    obtain ⟨rfl, rfl⟩ := h1
    have hb : Blk w g (.cells cur e) := h3
    refine ⟨g, rfl, h2, Blk.lt hb, Blk.free hb i, ?_, fun u => ⟨⟨by simp [hl], .inr ⟨g, c, cur.setIfInBounds i u, rfl, h2, Blk.setCell hb, h4, h5, by simp [h6], ?_⟩⟩, (Below.refl _ _).setCell h2 _⟩⟩
    · have hx : xs[i]? = cur[i]? := by rw [← h7, List.getElem?_take, if_pos (by omega)]; simp
      have hic : i < cur.size := by omega
      rw [Blk.val hb i (cur[i]) (by simp [hic])]
      simp only [List.getD, hx]
      simp [hic]
    · rw [← h7]
      simp [List.take_set]

/-- What Replace answers: the writes, and the error. -/
noncomputable def replaceOf (m : List (List UInt8)) (h : Hd) (d : DS) (a : Int) (r : List UInt8) : List (Int × List UInt8) × Int :=
  if doorOf h d 1 ≠ 0 then ([], doorOf h d 1) else if r.length < 1 ∨ d.length < r.length then ([], 2) else
    if (findOf m d.interval h.fin a).2.2 ≠ 0 then ([], (findOf m d.interval h.fin a).2.2) else
      if ((findOf m d.interval h.fin a).1.getD (findOf m d.interval h.fin a).2.1 []).length ≠ r.length then ([], 2) else
        ([(a / d.interval, encStr d.interval ((findOf m d.interval h.fin a).1.set (findOf m d.interval h.fin a).2.1 r))], 0)
/-- What Replace hands back. -/
def RepOut (R : List (Int × List UInt8) × Int) (w : World) (e : Ending) (w' : World) : Prop :=
  Ext w w' ∧ ∃ q k c, e = .returned (.tuple #[.slice q k c, .int .i64 R.2]) ∧ k = R.1.length ∧ Wrts w' q R.1
theorem repOut_no {R : List (Int × List UInt8) × Int} {w w' : World} {c : Int} (he : Ext w w') (hr : R = ([], c)) : RepOut R w (.returned (.tuple #[.slice none 0 0, .int .i64 c])) w' := by
  subst hr; exact ⟨he, none, 0, 0, rfl, rfl, .inl rfl⟩
theorem repOut_yes {R : List (Int × List UInt8) × Int} {w w' : World} {q : Option Addr} {k : Int} {s : List UInt8} (he : Ext w w') (hr : R = ([(k, s)], 0)) (hq : Wrts w' q [(k, s)]) : RepOut R w (.returned (.tuple #[.slice q 1 1, .int .i64 0])) w' := by
  subst hr; exact ⟨he, q, 1, 1, rfl, rfl, hq⟩
theorem findOf_in {m : List (List UInt8)} {size fin a : Int} (h : (findOf m size fin a).2.2 = 0) : ¬ a < size := by
  by_cases h1 : a < size ∨ fin < a / size
  · rw [findOf_out h1] at h; simp at h
  · omega
theorem small_set {L : List (List UInt8)} (h : Small L) (i : Nat) (r : List UInt8) (hr : r.length ≤ 1000000) : Small (L.set i r) := by
  refine ⟨by simpa using h.1, fun s hs => ?_⟩
  rcases List.mem_or_eq_of_mem_set hs with h1 | rfl
  · exact h.2 s h1
  · exact hr
theorem set_strs (L : List (List UInt8)) (i : Nat) (r : List UInt8) : (L.map fun s => Value.string ⟨s.toArray⟩).set i (.string ⟨r.toArray⟩) = (L.set i r).map fun s => Value.string ⟨s.toArray⟩ := by
  rw [List.map_set]

set_option maxRecDepth 100000 in
set_option maxHeartbeats 2000000 in
theorem Replace_any (p : Option Addr) (n cap : Nat) (m : List (List UInt8)) (h : Hd) (d : DS) (a : Int) (r : List UInt8) (hwr : ∀ s : Int, 0 < s → IntKind.i64.wrap (a.tdiv s) = a.tdiv s) (w : World) (hs : Strs w p m) (hn : m.length = n) (hm : Small m) (hrl : r.length ≤ 1000000) :
    Calls Tryd.prog 21 #[.iface 29 (.slice p n cap), .agg #[.int .i64 h.applied, .int .i64 h.count, .int .i64 h.fin, .int .i64 h.root, .int .i64 h.height, .int .i64 h.splits, .int .i64 h.areas], .agg #[.int .i64 d.id, .int .i64 d.org, .int .i64 d.format, .int .i64 d.length, .int .i64 d.block, .int .i64 d.keyAt, .int .i64 d.keyLength, .int .i64 d.interval, .int .i64 d.area, .int .i64 d.freeInterval, .int .i64 d.freeArea, .int .i64 d.base, .int .i64 d.altAt, .int .i64 d.altLength, .bool d.unique, .int .i64 d.cls, .string ⟨d.volume.toArray⟩, .string ⟨d.owner.toArray⟩, .int .i64 d.created, .int .i64 d.expires, .bool d.archived], .int .i64 a, .string ⟨r.toArray⟩] w (RepOut (replaceOf m h d a r) w) := by
  have Hs := Lib.hid hs
  have Hop := Lib.hid (open_any p n cap h d)
  have Hwr := Lib.hid hwr
  have Hal := Lib.hid (allowed_cl (.iface 29 (.slice p n cap)) h d r.length)
  clear hs hwr
  go_enter Tryd.func21, Tryd.ntmps21
  go_upto_region 1 with (fail)
  refine wp_name (fun w0 => Ext w w0 ∧ HdAt w0 w.heap.size h ∧ DsAt w0 (w.heap.size + 1) d) (hd_ds w h d) ?_
  rintro w0 ⟨he0, hb1, hb2⟩
  go_wp2_with (first | (refine wpList_ds rfl (.tmp 7) rfl _ rfl d hb2 ?_) | (refine wpList_hd rfl (.tmp 6) rfl _ rfl h hb1 ?_))
  refine (Hop.out _).mono ?_
  rintro e w1 ⟨he1, ⟨hdo, rfl⟩ | ⟨hdo, rfl⟩⟩
  · obtain ⟨hva, hpl, hor⟩ := door_zero hdo
    have v3 := (valid_spec hva).2.2.1
    have v5 := (valid_spec hva).2.2.2.2.1
    have p4 := (plain_spec hpl).2.2.2
    have hiv : 128 ≤ d.interval ∧ d.interval ≤ 512 := by rcases isSize_spec v3 with h | h | h <;> omega
    obtain ⟨hi0, hi1⟩ := hiv
    have HD := Lib.hid hdo
    have Hfi := Lib.hid (fun w hs => find_any p n cap m h d a Hwr.out w hs hn hm v3 p4)
    have Hlt := Lib.hid (@findOf_lt m d.interval h.fin a)
    have Hin := Lib.hid (@findOf_in m d.interval h.fin a)
    have hb2 := hb2.ext he1
    clear hdo hva hpl hor v3 hb1
    by_cases hlen : 1 ≤ r.length ∧ (r.length : Int) ≤ d.length
    · have hlI : (decide ((1 : Int) ≤ r.length) && decide ((r.length : Int) ≤ d.length)) = true := by simp; omega
      have HLI := Lib.hid hlI
      have HR := Lib.hid (show replaceOf m h d a r = _ by unfold replaceOf; rw [if_neg (by simp [HD.out]), if_neg (by omega)])
      clear hlI hlen
      go_wp2_with (first | (refine wpList_put rfl 77 (.tmp 12) (.tmp 23) rfl _ #[.iface 29 (.slice p n cap), .int .i64 h.applied, .int .i64 h.count, .int .i64 h.fin, .int .i64 h.root, .int .i64 h.height, .int .i64 h.splits, .int .i64 h.areas, .int .i64 d.id, .int .i64 d.org, .int .i64 d.format, .int .i64 d.length, .int .i64 d.block, .int .i64 d.keyAt, .int .i64 d.keyLength, .int .i64 d.interval, .int .i64 d.area, .int .i64 d.freeInterval, .int .i64 d.freeArea, .int .i64 d.base, .int .i64 d.altAt, .int .i64 d.altLength, .bool d.unique, .int .i64 d.cls, .string ⟨d.volume.toArray⟩, .string ⟨d.owner.toArray⟩, .int .i64 d.created, .int .i64 d.expires, .bool d.archived] rfl rfl _ _ (Blk.new w1 _) clSize rfl (cl_one _ rfl h d) ?_; intro w2 hcl hc2; have he2 : Ext w1 w2 := hc2.ext (Ext.alloc _ _) (Nat.le_refl _); have hb2 := hb2.ext he2) | (refine wpList_row rfl 77 (.tmp 12) rfl _ rfl _ _ _ hcl clDesc rfl clSize ?_) | (go_at_call 36; refine (Hal.out _).mono ?_; rw [HLI.out]; rintro e w3 ⟨rfl, he3⟩; have hcl := he3.blk _ _ hcl; have hb2 := hb2.ext he3))
      refine (Hfi.out _ (Hs.out.ext (((he0.trans he1).trans he2).trans he3))).mono ?_
      rintro e w4 ⟨he4, q, k, c, rfl, hk, hown, hsm⟩
      have hbl2 := Blk.lt hb2
      have hb2 := hb2.ext he4
      generalize findOf m d.interval h.fin a = R at *
      obtain ⟨L, i, x⟩ := R
      simp only at hk hown hsm
      subst hk
      have hE4 := (((he0.trans he1).trans he2).trans he3).trans he4
      have hz4 := (((he0.trans he1).trans he2).trans he3).size
      by_cases hx : x = 0
      · subst hx
        have hi : i < L.length := Hlt.out rfl
        have hiI : (i : Int) < L.length := by omega
        have hage := Hin.out rfl
        obtain ⟨g, rfl, hg1, hg2, hg3, hg4, hset⟩ := own_set hown i hi
        replace hg4 : w4.cell? ⟨g, i, none⟩ = some (.string ⟨(L.getD i []).toArray⟩) := by rw [hg4]; simp [List.getD, hi]
        have hset := hset (.string ⟨r.toArray⟩)
        rw [set_strs] at hset
        have Hset := Lib.hid hset
        have hll : L.length ≤ 1000000 := hsm.1
        have Hsm := Lib.hid hsm
        have hxl : (L.getD i []).length ≤ 1000000 := hsm.at i
        have HE4 := Lib.hid hE4
        by_cases hsame : (L.getD i []).length = r.length
        · have HR2 : Hid (replaceOf m h d a r = ([(a / d.interval, encStr d.interval (L.set i r))], 0)) := Lib.hid (by rw [HR.out, if_neg (by simp), if_neg (by rw [hsame]; simp)])
          have hsI : (((L.getD i []).length : Int) != (r.length : Int)) = false := by rw [hsame]; simp
          have hsN : ((L.getD i []).length != r.length) = false := by rw [hsame]; simp
          have hq : a.tdiv d.interval = a / d.interval := Int.tdiv_eq_ediv_of_nonneg (by omega)
          have hw := Hwr.out d.interval (by omega)
          rw [hq] at hw
          generalize a / d.interval = pg at *
          have hs0 : ¬ d.interval = 0 := by omega
          clear hset hown hsm hE4
          have Hsame := Lib.hid hsame
          clear hsame
          generalize L.getD i [] = s at *
          go_upto_region 12 with (fail)
          refine wp_name (fun w5 => Ext w w5 ∧ DsAt w5 (w.heap.size + 1) d ∧ w5.ownsRow w3.heap.size 9 1 (.slice (some ⟨g, 0, none⟩) L.length c) L.length ((L.set i r).map fun s => .string ⟨s.toArray⟩)) ⟨Ext.trans' HE4.out (Below.mono Hset.out.2 hz4), (Chg.setCell).blk hb2 (by omega), Hset.out.1⟩ ?_
          rintro w5 ⟨he5, hb5, hown5⟩
          have hM : (L.set i r).length = L.length := by simp
          have Hsm5 := Lib.hid (small_set Hsm.out i r hrl)
          generalize L.set i r = M at *
          rw [← hM] at hown5
          obtain ⟨q', k', hv', hq', hk1, hk2⟩ := own_strs2 hown5
          simp at hv'
          obtain ⟨rfl, rfl⟩ := hv'
          have Hen := Lib.hid (Encode_any (some ⟨g, 0, none⟩) c L.length M d.interval w5 hq' hM (by rw [← hM]; exact hk1) hk2 Hsm5.out)
          have hb5' := hb5
          have c7 : w5.cell? ⟨w.heap.size + 1, 7, none⟩ = some (.int .i64 d.interval) := Blk.val hb5 7 _ rfl
          have HE5 := Lib.hid he5
          generalize encStr d.interval M = es at *
          generalize encErr d.interval M = ee at *
          clear hown5 hq' hM Hsm5 he5 hk1 hk2
          go_wp2_with (first | (go_at_call 39; refine Hen.out.mono ?_; rintro e w6 ⟨rfl, he6⟩; have c7 : w6.cell? ⟨w.heap.size + 1, 7, none⟩ = some (.int .i64 d.interval) := Blk.val (hb5'.ext he6) 7 _ rfl))
          go_ret2
          exact repOut_yes ((HE5.out.trans he6).trans (Ext.alloc _ _)) HR2.out (wrts_one (Blk.new1 _ _ _ rfl))
        · have HR2 : Hid (replaceOf m h d a r = ([], 2)) := Lib.hid (by rw [HR.out, if_neg (by simp), if_pos hsame])
          have hsN : ((L.getD i []).length != r.length) = true := by simpa using hsame
          clear hset hown hsm hE4 hsame
          generalize L.getD i [] = s at *
          go_wp2_with fail
          go_ret2
          exact repOut_no HE4.out HR2.out
      · have hxI : (x != 0) = true := by simpa using hx
        have HR2 : Hid (replaceOf m h d a r = ([], x)) := Lib.hid (by rw [HR.out, if_pos (by simpa using hx)])
        clear hx hown hsm
        go_wp2_with fail
        go_ret2
        exact repOut_no hE4 HR2.out
    · have hlI : (decide ((1 : Int) ≤ r.length) && decide ((r.length : Int) ≤ d.length)) = false := by simp; omega
      have HLI := Lib.hid hlI
      have HR : Hid (replaceOf m h d a r = ([], 2)) := Lib.hid (by unfold replaceOf; rw [if_neg (by simp [HD.out]), if_pos (by omega)])
      clear hlI hlen
      go_wp2_with (first | (refine wpList_put rfl 77 (.tmp 12) (.tmp 23) rfl _ #[.iface 29 (.slice p n cap), .int .i64 h.applied, .int .i64 h.count, .int .i64 h.fin, .int .i64 h.root, .int .i64 h.height, .int .i64 h.splits, .int .i64 h.areas, .int .i64 d.id, .int .i64 d.org, .int .i64 d.format, .int .i64 d.length, .int .i64 d.block, .int .i64 d.keyAt, .int .i64 d.keyLength, .int .i64 d.interval, .int .i64 d.area, .int .i64 d.freeInterval, .int .i64 d.freeArea, .int .i64 d.base, .int .i64 d.altAt, .int .i64 d.altLength, .bool d.unique, .int .i64 d.cls, .string ⟨d.volume.toArray⟩, .string ⟨d.owner.toArray⟩, .int .i64 d.created, .int .i64 d.expires, .bool d.archived] rfl rfl _ _ (Blk.new w1 _) clSize rfl (cl_one _ rfl h d) ?_; intro w2 hcl hc2; have he2 : Ext w1 w2 := hc2.ext (Ext.alloc _ _) (Nat.le_refl _)) | (refine wpList_row rfl 77 (.tmp 12) rfl _ rfl _ _ _ hcl clDesc rfl clSize ?_) | (go_at_call 36; refine (Hal.out _).mono ?_; rw [HLI.out]; rintro e w3 ⟨rfl, he3⟩))
      go_ret2
      exact repOut_no (((he0.trans he1).trans he2).trans he3) HR.out
  · have HR : Hid (replaceOf m h d a r = ([], doorOf h d 1)) := Lib.hid (by unfold replaceOf; rw [if_pos hdo])
    have hdI : (doorOf h d 1 != 0) = true := by simpa using hdo
    generalize doorOf h d 1 = c at *
    clear hdo
    go_wp2_with (first | (refine wpList_put rfl 77 (.tmp 12) (.tmp 23) rfl _ clZero rfl rfl _ _ (Blk.new w1 _) clSize rfl clZero_one ?_; intro w2 hcl hc2; have he2 : Ext w1 w2 := hc2.ext (Ext.alloc _ _) (Nat.le_refl _)))
    go_ret2
    exact repOut_no ((he0.trans he1).trans he2) HR.out
end Go.Proofs.YtkhlglkipeoalaaDoor
/- Replace of the reference. -/
namespace Go.Proofs.YtkhlglkipeoalaaDoor
open Go.RowKit Dsd

set_option maxRecDepth 100000 in
set_option maxHeartbeats 2000000 in
theorem Replace_ref (p : Option Addr) (n cap : Nat) (m : List (List UInt8)) (h : Hd) (d : DS) (a : Int) (r : List UInt8) (hwr : ∀ s : Int, 0 < s → IntKind.i64.wrap (a.tdiv s) = a.tdiv s) (w : World) (hs : Strs w p m) (hn : m.length = n) (hm : Small m) (hrl : r.length ≤ 1000000) :
    Calls Tryd.prog 22 #[.slice p n cap, .agg #[.int .i64 h.applied, .int .i64 h.count, .int .i64 h.fin, .int .i64 h.root, .int .i64 h.height, .int .i64 h.splits, .int .i64 h.areas], .agg #[.int .i64 d.id, .int .i64 d.org, .int .i64 d.format, .int .i64 d.length, .int .i64 d.block, .int .i64 d.keyAt, .int .i64 d.keyLength, .int .i64 d.interval, .int .i64 d.area, .int .i64 d.freeInterval, .int .i64 d.freeArea, .int .i64 d.base, .int .i64 d.altAt, .int .i64 d.altLength, .bool d.unique, .int .i64 d.cls, .string ⟨d.volume.toArray⟩, .string ⟨d.owner.toArray⟩, .int .i64 d.created, .int .i64 d.expires, .bool d.archived], .int .i64 a, .string ⟨r.toArray⟩] w (RepOut (replaceOf m h d a r) w) := by
  have Hs := Lib.hid hs
  have Hdo := Lib.hid (Door_any h d 1)
  have HD0 := Lib.hid (show doorOf h d 1 = doorOf h d 1 from rfl)
  by_cases hdo : doorOf h d 1 = 0
  · obtain ⟨hva, hpl, hor⟩ := door_zero hdo
    have v3 := (valid_spec hva).2.2.1
    have v5 := (valid_spec hva).2.2.2.2.1
    have hiv : 128 ≤ d.interval ∧ d.interval ≤ 512 := by rcases isSize_spec v3 with h | h | h <;> omega
    obtain ⟨hi0, hi1⟩ := hiv
    have Hwr := Lib.hid hwr
    have HD := Lib.hid hdo
    have Hfi := Lib.hid (fun w hs => find_ref p n cap m h d a hwr w hs hn hm hdo)
    have Hlt := Lib.hid (@findOf_lt m d.interval h.fin a)
    have Hin := Lib.hid (@findOf_in m d.interval h.fin a)
    rw [hdo] at Hdo
    clear hs hwr hdo hva hpl hor v3 HD0
    go_enter Tryd.func22, Tryd.ntmps22
    go_upto_region 1 with (fail)
    refine wp_name (fun w0 => Ext w w0 ∧ HdAt w0 w.heap.size h ∧ DsAt w0 (w.heap.size + 1) d) (hd_ds w h d) ?_
    rintro w0 ⟨he0, hb1, hb2⟩
    by_cases hlen : 1 ≤ r.length ∧ (r.length : Int) ≤ d.length
    · have HR := Lib.hid (show replaceOf m h d a r = _ by unfold replaceOf; rw [if_neg (by simp [HD.out]), if_neg (by omega)])
      obtain ⟨hl1, hl2⟩ := hlen
      have hl1N : decide (r.length < 1) = false := decide_eq_false (by omega)
      have hl1I : decide ((r.length : Int) < 1) = false := decide_eq_false (by omega)
      have hl2I : decide (d.length < (r.length : Int)) = false := decide_eq_false (by omega)
      go_wp2_with (first | (refine wpList_ds rfl (.tmp 7) rfl _ rfl d hb2 ?_) | (refine wpList_hd rfl (.tmp 6) rfl _ rfl h hb1 ?_) | (go_at_call 40; refine (Hdo.out _).mono ?_; rintro e w1 ⟨rfl, he1⟩; have hb1 := hb1.ext he1; have hb2 := hb2.ext he1; have c3 := Blk.val hb2 3 _ rfl))
      refine (Hfi.out _ (Hs.out.ext (he0.trans he1))).mono ?_
      rintro e w4 ⟨he4, q, k, c, rfl, hk, hown, hsm⟩
      have hbl2 := Blk.lt hb2
      have hb2 := hb2.ext he4
      generalize findOf m d.interval h.fin a = R at *
      obtain ⟨L, i, x⟩ := R
      simp only at hk hown hsm
      subst hk
      have hE4 := (he0.trans he1).trans he4
      have hz4 := (he0.trans he1).size
      clear c3 hl1 hl2 hl1N hl1I hl2I
      by_cases hx : x = 0
      · subst hx
        have hi : i < L.length := Hlt.out rfl
        have hiI : (i : Int) < L.length := by omega
        have hage := Hin.out rfl
        obtain ⟨g, rfl, hg1, hg2, hg3, hg4, hset⟩ := own_set hown i hi
        replace hg4 : w4.cell? ⟨g, i, none⟩ = some (.string ⟨(L.getD i []).toArray⟩) := by rw [hg4]; simp [List.getD, hi]
        have hset := hset (.string ⟨r.toArray⟩)
        rw [set_strs] at hset
        have Hset := Lib.hid hset
        have hll : L.length ≤ 1000000 := hsm.1
        have Hsm := Lib.hid hsm
        have hxl : (L.getD i []).length ≤ 1000000 := hsm.at i
        have HE4 := Lib.hid hE4
        by_cases hsame : r.length = (L.getD i []).length
        · have HR2 : Hid (replaceOf m h d a r = ([(a / d.interval, encStr d.interval (L.set i r))], 0)) := Lib.hid (by rw [HR.out, if_neg (by simp), if_neg (by rw [hsame]; simp)])
          have hsN : (r.length != (L.getD i []).length) = false := by rw [hsame]; simp
          have hq : a.tdiv d.interval = a / d.interval := Int.tdiv_eq_ediv_of_nonneg (by omega)
          have hw := Hwr.out d.interval (by omega)
          rw [hq] at hw
          generalize a / d.interval = pg at *
          have hs0 : ¬ d.interval = 0 := by omega
          clear hset hown hsm hE4
          have Hsame := Lib.hid hsame
          clear hsame
          generalize L.getD i [] = s at *
          go_upto_region 12 with (fail)
          refine wp_name (fun w5 => Ext w w5 ∧ DsAt w5 (w.heap.size + 1) d ∧ w5.ownsRow w1.heap.size 9 1 (.slice (some ⟨g, 0, none⟩) L.length c) L.length ((L.set i r).map fun s => .string ⟨s.toArray⟩)) ⟨Ext.trans' HE4.out (Below.mono Hset.out.2 hz4), (Chg.setCell).blk hb2 (by omega), Hset.out.1⟩ ?_
          rintro w5 ⟨he5, hb5, hown5⟩
          have hM : (L.set i r).length = L.length := by simp
          have Hsm5 := Lib.hid (small_set Hsm.out i r hrl)
          generalize L.set i r = M at *
          rw [← hM] at hown5
          obtain ⟨q', k', hv', hq', hk1, hk2⟩ := own_strs2 hown5
          simp at hv'
          obtain ⟨rfl, rfl⟩ := hv'
          have Hen := Lib.hid (Encode_ref (some ⟨g, 0, none⟩) c L.length M d.interval w5 hq' hM Hsm5.out)
          have hb5' := hb5
          have c7 : w5.cell? ⟨w.heap.size + 1, 7, none⟩ = some (.int .i64 d.interval) := Blk.val hb5 7 _ rfl
          have HE5 := Lib.hid he5
          generalize encStr d.interval M = es at *
          generalize encErr d.interval M = ee at *
          clear hown5 hq' hM Hsm5 he5 hk1 hk2
          go_wp2_with (first | (go_at_call 43; refine Hen.out.mono ?_; rintro e w6 ⟨rfl, he6⟩; have c7 : w6.cell? ⟨w.heap.size + 1, 7, none⟩ = some (.int .i64 d.interval) := Blk.val (hb5'.ext he6) 7 _ rfl))
          go_ret2
          exact repOut_yes ((HE5.out.trans he6).trans (Ext.alloc _ _)) HR2.out (wrts_one (Blk.new1 _ _ _ rfl))
        · have HR2 : Hid (replaceOf m h d a r = ([], 2)) := Lib.hid (by rw [HR.out, if_neg (by simp), if_pos (fun e => hsame e.symm)])
          have hsN : (r.length != (L.getD i []).length) = true := by simpa using hsame
          clear hset hown hsm hE4 hsame
          generalize L.getD i [] = s at *
          go_wp2_with fail
          go_ret2
          exact repOut_no HE4.out HR2.out
      · have hxI : (x != 0) = true := by simpa using hx
        have HR2 : Hid (replaceOf m h d a r = ([], x)) := Lib.hid (by rw [HR.out, if_pos (by simpa using hx)])
        clear hx hown hsm
        go_wp2_with fail
        go_ret2
        exact repOut_no hE4 HR2.out
    · have HR : Hid (replaceOf m h d a r = ([], 2)) := Lib.hid (by unfold replaceOf; rw [if_neg (by simp [HD.out]), if_pos (by omega)])
      by_cases hl1 : 1 ≤ r.length
      · have hl1N : decide (r.length < 1) = false := decide_eq_false (by omega)
        have hl1I : decide ((r.length : Int) < 1) = false := decide_eq_false (by omega)
        have hl2I : decide (d.length < (r.length : Int)) = true := decide_eq_true (by omega)
        go_wp2_with (first | (refine wpList_ds rfl (.tmp 7) rfl _ rfl d hb2 ?_) | (refine wpList_hd rfl (.tmp 6) rfl _ rfl h hb1 ?_) | (go_at_call 40; refine (Hdo.out _).mono ?_; rintro e w1 ⟨rfl, he1⟩; have hb2 := hb2.ext he1; have c3 := Blk.val hb2 3 _ rfl))
        go_ret2
        exact repOut_no (he0.trans he1) HR.out
      · have hl1N : decide (r.length < 1) = true := decide_eq_true (by omega)
        have hl1I : decide ((r.length : Int) < 1) = true := decide_eq_true (by omega)
        go_wp2_with (first | (refine wpList_ds rfl (.tmp 7) rfl _ rfl d hb2 ?_) | (refine wpList_hd rfl (.tmp 6) rfl _ rfl h hb1 ?_) | (go_at_call 40; refine (Hdo.out _).mono ?_; rintro e w1 ⟨rfl, he1⟩; have hb2 := hb2.ext he1; have c3 := Blk.val hb2 3 _ rfl))
        go_ret2
        exact repOut_no (he0.trans he1) HR.out
  · have HR : Hid (replaceOf m h d a r = ([], doorOf h d 1)) := Lib.hid (by unfold replaceOf; rw [if_pos hdo])
    have hdI : (doorOf h d 1 != 0) = true := by simpa using hdo
    generalize doorOf h d 1 = c at *
    clear hdo hs
    go_enter Tryd.func22, Tryd.ntmps22
    go_upto_region 1 with (fail)
    refine wp_name (fun w0 => Ext w w0 ∧ HdAt w0 w.heap.size h ∧ DsAt w0 (w.heap.size + 1) d) (hd_ds w h d) ?_
    rintro w0 ⟨he0, hb1, hb2⟩
    go_wp2_with (first | (refine wpList_ds rfl (.tmp 7) rfl _ rfl d hb2 ?_) | (refine wpList_hd rfl (.tmp 6) rfl _ rfl h hb1 ?_) | (go_at_call 40; refine (Hdo.out _).mono ?_; rintro e w1 ⟨rfl, he1⟩))
    go_ret2
    exact repOut_no (he0.trans he1) HR.out
end Go.Proofs.YtkhlglkipeoalaaDoor
