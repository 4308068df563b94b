/- The walk of package index's Locate. -/
import Derived.Test.YtolmoknjmdmpgaaGreatDI
set_option linter.unusedSimpArgs false
set_option linter.unusedVariables false
namespace Go.Proofs.YtolmoknjmdmpgaaGreat
open Go.RowKit Dsd
theorem PathIn.ext {B pb : Nat} {L : List Int} {w w' : World} (h : PathIn B pb L w) (e : Ext w w') : PathIn B pb L w' := by
  obtain ⟨h1, q, c, h2, h3⟩ := h
  exact ⟨h1, q, c, e.blk _ _ h2, own_ext h3 e⟩
/-- What Locate's visitor may turn, in any world. -/
def TQ (B : Nat) (w w' : World) : Prop := w.heap.size ≤ w'.heap.size ∧ (B ≤ w.heap.size → Below B w w') ∧ ∀ b cs t, t ≠ 3 → t ≠ 30 → Blk w b (.cells cs t) → Blk w' b (.cells cs t)
theorem locate_visit (B pb : Nat) (m : List (List UInt8)) (h : Hd) (d : DS) (key : List UInt8) (hz : door22 h d = 0) : Visit 28 #[.pointer (some ⟨pb, 0, none⟩)] (TQ B) m h d key (fun j W => PathIn B pb (pathTo m h d key j) W ∧ B ≤ W.heap.size) where
  call := fun args W => by simp [callFunc, Tryz.func28]; kernel_rfl
  ext := fun j W W' e ⟨h1, h2⟩ => ⟨h1.ext e, Nat.le_trans h2 e.size⟩
  trans := fun W W' W'' a b => ⟨Nat.le_trans a.1 b.1, fun hB => (a.2.1 hB).trans (b.2.1 (Nat.le_trans hB a.1)), fun x cs t h1 h2 h3 => b.2.2 x cs t h1 h2 (a.2.2 x cs t h1 h2 h3)⟩
  ofExt := fun W W' e => ⟨e.size, fun hB => Below.mono e hB, fun x cs t _ _ h3 => e.blk _ _ h3⟩
  size := fun W W' a => a.1
  keep := fun W W' b cs t a ht hb => a.2.2 b cs t (by rcases ht with rfl | rfl | rfl <;> decide) (by rcases ht with rfl | rfl | rfl <;> decide) hb
  go := fun j hj her W q c B0 ⟨h1, h2⟩ ho => by
    obtain ⟨k1, k2, k3, k4, k5, k6, k7⟩ := door22_zero hz
    have he : erAt m h d key j = 0 := erTo_zero her (Nat.lt_succ_self j)
    have hsp : NSpec (ndAt m h d key j) := (load_spec he).1
    have hne : (ndAt m h d key j).ents ≠ [] := by have := hsp.l1; intro h9; rw [h9] at this; simp at this
    have hl := hsp.l2
    refine (Locate1_any B pb (pathTo m h d key j) (ndAt m h d key j) q c (findNd (ndAt m h d key j).ents key) W h1 ho (find_lt key hne) (by omega) (by rw [pathTo_len]; omega) h2).mono ?_
    rintro e W' ⟨rfl, hP, hT⟩
    rw [← pgAt_succ, ← pathTo_succ] at hP
    exact ⟨rfl, ⟨hP, Nat.le_trans h2 hT.1.size⟩, hT.1.size, fun _ => hT.1, hT.2⟩
/-- What Locate hands back. -/
def LocOut (m : List (List UInt8)) (h : Hd) (d : DS) (key : List UInt8) (w : World) (e : Ending) (w' : World) : Prop := Ext w w' ∧ ∃ q c, e = .returned (.tuple #[.slice q (locL m h d key).length c, .int .i64 (locE m h d key)]) ∧
  w'.ownsRow w.heap.size 3 1 (.slice q (locL m h d key).length c) (locL m h d key).length (intC (locL m h d key))
set_option maxRecDepth 100000 in
set_option maxHeartbeats 4000000 in
theorem Locate22_any (p : Option Addr) (cap n : Nat) (m : List (List UInt8)) (h : Hd) (d : DS) (key : List UInt8) (w : World) (hs : Strs w p m) (hn : m.length = n) (hm : Small m) :
    Calls Tryz.prog 9 #[.iface 29 (.slice p n cap), .agg #[.int .i64 h.applied, .int .i64 h.count, .int .i64 h.fin, .int .i64 h.root, .int .i64 h.height, .int .i64 h.splits, .int .i64 h.areas], .agg #[.int .i64 d.id, .int .i64 d.org, .int .i64 d.format, .int .i64 d.length, .int .i64 d.block, .int .i64 d.keyAt, .int .i64 d.keyLength, .int .i64 d.interval, .int .i64 d.area, .int .i64 d.freeInterval, .int .i64 d.freeArea, .int .i64 d.base, .int .i64 d.altAt, .int .i64 d.altLength, .bool d.unique, .int .i64 d.cls, .string ⟨d.volume.toArray⟩, .string ⟨d.owner.toArray⟩, .int .i64 d.created, .int .i64 d.expires, .bool d.archived], .string ⟨key.toArray⟩] w (LocOut m h d key w) := by
  have hdd := hd_ds w h d
  have HNo : Hid (∀ e w' c, locE m h d key = c → c ≠ 0 → Ext w w' → e = .returned (.tuple #[.slice none 0 0, .int .i64 c]) → LocOut m h d key w e w') := Lib.hid (fun e w' c hc h0 h1 h2 => by
    have hl : locL m h d key = [] := by unfold locL; rw [if_neg (by rw [hc]; exact h0)]
    unfold LocOut
    rw [hl, hc]
    exact ⟨h1, none, 0, h2, rfl, .inl ⟨rfl, rfl⟩⟩)
  by_cases hz : door22 h d = 0
  · have hlE : locE m h d key = erTo m h d key h.height.toNat := by unfold locE; rw [if_neg (by rw [hz]; simp)]
    have HYes : Hid (∀ e w' q c, erTo m h d key h.height.toNat = 0 → Ext w w' → e = .returned (.tuple #[.slice q (pathTo m h d key h.height.toNat).length c, .int .i64 0]) → w'.ownsRow w.heap.size 3 1 (.slice q (pathTo m h d key h.height.toNat).length c) (pathTo m h d key h.height.toNat).length (intC (pathTo m h d key h.height.toNat)) → LocOut m h d key w e w') := Lib.hid (fun e w' q c hc h1 h2 h3 => by
      have hl : locL m h d key = pathTo m h d key h.height.toNat := by unfold locL; rw [if_pos (by rw [hlE]; exact hc)]
      unfold LocOut
      rw [hl, hlE, hc]
      exact ⟨h1, q, c, h2, h3⟩)
    rw [hlE] at HNo
    have HV := Lib.hid (fun pb => locate_visit w.heap.size pb m h d key hz)
    have HD := Lib.hid (fun pb W h0 hs => descend_any 28 #[.pointer (some ⟨pb, 0, none⟩)] (TQ w.heap.size) p cap n m h d key _ (HV.out pb) hz W h0 hs hn hm)
    have Hs := Lib.hid hs
    have Hz := Lib.hid hz
    have HOp : Hid (∀ W, Calls Tryz.prog 26 #[.iface 29 (.slice p n cap), .agg #[.int .i64 h.applied, .int .i64 h.count, .int .i64 h.fin, .int .i64 h.root, .int .i64 h.height, .int .i64 h.splits, .int .i64 h.areas], .agg #[.int .i64 d.id, .int .i64 d.org, .int .i64 d.format, .int .i64 d.length, .int .i64 d.block, .int .i64 d.keyAt, .int .i64 d.keyLength, .int .i64 d.interval, .int .i64 d.area, .int .i64 d.freeInterval, .int .i64 d.freeArea, .int .i64 d.base, .int .i64 d.altAt, .int .i64 d.altLength, .bool d.unique, .int .i64 d.cls, .string ⟨d.volume.toArray⟩, .string ⟨d.owner.toArray⟩, .int .i64 d.created, .int .i64 d.expires, .bool d.archived]] W fun e w' => e = .returned (.tuple #[.agg (trC (.slice p n cap) h d), .int .i64 0]) ∧ Ext W w') := Lib.hid (fun W => (open22_any p n cap h d W).mono (fun e w' ⟨h1, h2⟩ => by
      rcases h2 with ⟨_, h3⟩ | ⟨h3, _⟩
      · exact ⟨h3, h1⟩
      · rw [hz] at h3; cases h3))
    clear hs hz hlE HV
    generalize LocOut m h d key w = OUT at *
    go_enter Tryz.func9, Tryz.ntmps9
    go_upto_region 1 with (fail)
    refine wp_name (fun w0 => Ext w w0 ∧ HdAt w0 w.heap.size h ∧ DsAt w0 (w.heap.size + 1) d) hdd ?_
    clear hdd
    rintro w0 ⟨he0, hb1, hb2⟩
    go_upto_region 5 with (first
      | ((with_reducible (show wpList _ _ _ (⟨some 16, _, _, _, _, _⟩ :: _) _ _)); refine wpList_hd (o := ⟨some 16, _, _, _, _, _⟩) rfl (.tmp 5) rfl _ rfl h hb1 ?_)
      | ((with_reducible (show wpList _ _ _ (⟨some 17, _, _, _, _, _⟩ :: _) _ _)); refine wpList_ds (o := ⟨some 17, _, _, _, _, _⟩) rfl (.tmp 6) rfl _ rfl d hb2 ?_)
      | (go_at_call 26; refine (HOp.out _).mono ?_; rintro e w1 ⟨rfl, he1⟩)
      | (refine wpList_put rfl 70 (.tmp 10) (.tmp 19) rfl _ (trC (.slice p n cap) h d) rfl rfl _ _ (Blk.new w1 _) trSize rfl (tr_one p n cap h d) ?_; intro w3 ht3 hc3; have hx3 := hc3.ext (Ext.alloc _ _) (Nat.le_refl _); have hb13 := (hb1.ext he1).ext hx3; have c3 := Blk.val hb13 3 _ rfl; have l3 := Blk.lt hb13))
    have hX3 : Ext w w3 := (he0.trans he1).trans hx3
    have hxA := (Ext.alloc w3 (.cells #[.int .i64 h.root] 3)).trans (Ext.alloc _ (.cells #[.slice (some ⟨w3.heap.size, 0, none⟩) 1 1] 30))
    refine wp_name (fun w4 => Ext w w4 ∧ Blk w4 w1.heap.size (.cells (trC (.slice p n cap) h d) 70) ∧ PathIn w.heap.size (w3.heap.size + 1) (pathTo m h d key 0) w4 ∧ w3.heap.size + 1 < w4.heap.size) ⟨hX3.trans hxA, hxA.blk _ _ ht3, ⟨by have := hX3.size; omega, some ⟨w3.heap.size, 0, none⟩, 1, Blk.new1 _ _ _ (by simp), own_of_blk (xs := [.int .i64 h.root]) (Blk.alloc (Blk.new w3 _) _) hX3.size rfl (by rw [pathTo_len]; decide)⟩, Blk.lt (Blk.new1 _ _ _ (by simp))⟩ ?_
    clear hX3 hxA ht3 hc3 hx3 he1 he0 hb1 hb2 hb13 c3 l3
    generalize w3.heap.size + 1 = pb
    generalize w1.heap.size = tb
    rintro w4 ⟨hx4, ht4, hP4, hlp4⟩
    have HDs := Lib.hid (HD.out pb w4 ⟨hP4, hx4.size⟩ (fun W hT => Hs.out.ext (Ext.trans' hx4 (hT.2.1 hx4.size))))
    by_cases hE : erTo m h d key h.height.toNat = 0
    · have HY := Lib.hid (fun e w' q c => HYes.out e w' q c hE)
      rw [hE] at HDs
      have HpL := Lib.hid (pathTo_len m h d key h.height.toNat)
      clear HNo HYes hE HD hP4
      generalize pathTo m h d key h.height.toNat = PL at *
      go_upto_region 8 with (first
        | ((with_reducible (show wpList _ _ _ (⟨some 27, _, _, _, _, _⟩ :: _) _ _)); refine wpList_row (o := ⟨some 27, _, _, _, _, _⟩) rfl 70 (.tmp 10) rfl _ rfl _ _ _ ht4 trDesc rfl trSize ?_)
        | (go_at_call 27; refine HDs.out.mono ?_; rintro e w5 ⟨rfl, hT5, hS5⟩))
      obtain ⟨⟨_, q, c, hp5, ho5⟩, _⟩ := hS5 (by trivial)
      have k5 := Blk.val hp5 0 _ rfl
      have l5 := Blk.lt hp5
      go_wp2_with fail
      exact HY.out _ _ q c (Ext.trans' hx4 (hT5.2.1 hx4.size)) rfl ho5
    · have HN := Lib.hid (fun e w' => HNo.out e w' _ rfl hE)
      have hei : (erTo m h d key h.height.toNat != 0) = true := by simpa using hE
      clear HNo HYes hE HD hP4
      generalize erTo m h d key h.height.toNat = er at *
      go_wp2_with (first
        | ((with_reducible (show wpList _ _ _ (⟨some 27, _, _, _, _, _⟩ :: _) _ _)); refine wpList_row (o := ⟨some 27, _, _, _, _, _⟩) rfl 70 (.tmp 10) rfl _ rfl _ _ _ ht4 trDesc rfl trSize ?_)
        | (go_at_call 27; refine HDs.out.mono ?_; rintro e w5 ⟨rfl, hT5, _⟩))
      exact HN.out _ _ (Ext.trans' hx4 (hT5.2.1 hx4.size)) rfl
  · have hz1 : door22 h d = 1 := by unfold door22 at hz ⊢; split at hz <;> rename_i hq; exact absurd rfl hz; rw [if_neg hq]
    have hlE : locE m h d key = 1 := by unfold locE; rw [if_pos hz]
    have HN := Lib.hid (fun e w' => HNo.out e w' 1 hlE (by decide))
    have HOp : Hid (∀ W, Calls Tryz.prog 26 #[.iface 29 (.slice p n cap), .agg #[.int .i64 h.applied, .int .i64 h.count, .int .i64 h.fin, .int .i64 h.root, .int .i64 h.height, .int .i64 h.splits, .int .i64 h.areas], .agg #[.int .i64 d.id, .int .i64 d.org, .int .i64 d.format, .int .i64 d.length, .int .i64 d.block, .int .i64 d.keyAt, .int .i64 d.keyLength, .int .i64 d.interval, .int .i64 d.area, .int .i64 d.freeInterval, .int .i64 d.freeArea, .int .i64 d.base, .int .i64 d.altAt, .int .i64 d.altLength, .bool d.unique, .int .i64 d.cls, .string ⟨d.volume.toArray⟩, .string ⟨d.owner.toArray⟩, .int .i64 d.created, .int .i64 d.expires, .bool d.archived]] W fun e w' => e = .returned (.tuple #[.agg trZ, .int .i64 1]) ∧ Ext W w') := Lib.hid (fun W => (open22_any p n cap h d W).mono (fun e w' ⟨h1, h2⟩ => by
      rcases h2 with ⟨h3, _⟩ | ⟨_, h3⟩
      · exact absurd h3 hz
      · exact ⟨h3, h1⟩))
    clear HNo hz hz1 hlE hs
    generalize LocOut m h d key w = OUT at *
    go_enter Tryz.func9, Tryz.ntmps9
    go_upto_region 1 with (fail)
    refine wp_name (fun w0 => Ext w w0 ∧ HdAt w0 w.heap.size h ∧ DsAt w0 (w.heap.size + 1) d) hdd ?_
    clear hdd
    rintro w0 ⟨he0, hb1, hb2⟩
    go_wp2_with (first
      | ((with_reducible (show wpList _ _ _ (⟨some 16, _, _, _, _, _⟩ :: _) _ _)); refine wpList_hd (o := ⟨some 16, _, _, _, _, _⟩) rfl (.tmp 5) rfl _ rfl h hb1 ?_)
      | ((with_reducible (show wpList _ _ _ (⟨some 17, _, _, _, _, _⟩ :: _) _ _)); refine wpList_ds (o := ⟨some 17, _, _, _, _, _⟩) rfl (.tmp 6) rfl _ rfl d hb2 ?_)
      | (go_at_call 26; refine (HOp.out _).mono ?_; rintro e w1 ⟨rfl, he1⟩)
      | (refine wpList_put rfl 70 (.tmp 10) (.tmp 19) rfl _ trZ rfl rfl _ _ (Blk.new w1 _) trSize rfl trZ_one ?_; intro w3 ht3 hc3; have hx3 := hc3.ext (Ext.alloc _ _) (Nat.le_refl _)))
    exact HN.out _ _ ((he0.trans he1).trans hx3) rfl
end Go.Proofs.YtolmoknjmdmpgaaGreat
