/- The reference's All and Next. -/
import Derived.Test.YtkhlglkipeoalaaDoorXL
import Derived.BigRegion
import Derived.Shelf.RegionOpen
set_option linter.unusedSimpArgs false
set_option linter.unusedVariables false
namespace Go.Proofs.YtkhlglkipeoalaaDoor
open Go.RowKit Dsd

set_option maxRecDepth 100000 in
set_option maxHeartbeats 4000000 in
theorem All_ref (p : Option Addr) (n cap : Nat) (m : Recs) (h : Hd) (d : DS) (w : World) (hs : Strs w p m) (hn : m.length = n) (hm : Small m) (hml : m.length ≤ 10000) :
    Calls Tryd.prog 33 #[.slice p n cap, .agg #[.int .i64 h.applied, .int .i64 h.count, .int .i64 h.fin, .int .i64 h.root, .int .i64 h.height, .int .i64 h.splits, .int .i64 h.areas], .agg #[.int .i64 d.id, .int .i64 d.org, .int .i64 d.format, .int .i64 d.length, .int .i64 d.block, .int .i64 d.keyAt, .int .i64 d.keyLength, .int .i64 d.interval, .int .i64 d.area, .int .i64 d.freeInterval, .int .i64 d.freeArea, .int .i64 d.base, .int .i64 d.altAt, .int .i64 d.altLength, .bool d.unique, .int .i64 d.cls, .string ⟨d.volume.toArray⟩, .string ⟨d.owner.toArray⟩, .int .i64 d.created, .int .i64 d.expires, .bool d.archived]] w (AllOut (allOf m h d) w) := by
  have Hs := Lib.hid hs
  have Hn := Lib.hid hn
  have Hm := Lib.hid hm
  have HDo := Lib.hid (Door_any h d 1)
  have hlen := scan_len m d.interval h.fin m.length 1 (by omega) (by omega)
  have hlen2 : (scanOf m d.interval h.fin 1).1.length ≤ 6000000 := by
    have h2 : 600 * m.length ≤ 600 * 10000 := Nat.mul_le_mul (Nat.le_refl _) hml
    omega
  clear hs hn hm hlen
  by_cases hdo : doorOf h d 1 = 0
  · rw [hdo] at HDo
    obtain ⟨hva, hpl, hor⟩ := door_zero hdo
    have v3 := (valid_spec hva).2.2.1
    have hiv : 128 ≤ d.interval ∧ d.interval ≤ 512 := by rcases isSize_spec v3 with h | h | h <;> omega
    obtain ⟨hi0, hi1⟩ := hiv
    have p4 := (plain_spec hpl).2.2.2
    have HR : Hid (allOf m h d = _) := Lib.hid (by unfold allOf; rw [if_neg (by simp [hdo])])
    have HR0 : Hid ([] ++ (scanOf m d.interval h.fin 1).1 = (scanOf m d.interval h.fin 1).1) := Lib.hid rfl
    have HR1 : Hid ((scanOf m d.interval h.fin 1).2 = (scanOf m d.interval h.fin 1).2) := Lib.hid rfl
    clear hva hpl hor v3 hdo
    go_enter Tryd.func33, Tryd.ntmps33
    go_upto_region 1 with (fail)
    refine wp_name (fun w0 => Ext w w0 ∧ HdAt w0 w.heap.size h ∧ DsAt w0 (w.heap.size + 1) d) (hd_ds w h d) ?_
    rintro w0 ⟨he0, hb1, hb2⟩
    go_upto_region 4 with (first | (refine wpList_ds rfl (.tmp 5) rfl _ rfl d hb2 ?_) | (refine wpList_hd rfl (.tmp 4) rfl _ rfl h hb1 ?_) | (go_at_call 40; refine (HDo.out _).mono ?_; rintro e w1 ⟨rfl, he1⟩))
    refine wp_name (fun wA => Ext w wA ∧ HdAt wA w.heap.size h ∧ DsAt wA (w.heap.size + 1) d) ⟨he0.trans he1, hb1.ext he1, hb2.ext he1⟩ ?_
    clear he0 he1 hb1 hb2
    rintro wA ⟨heA, hb1, hb2⟩
    have HA : Hid ((∃ v, (wA.alloc (.cells #[] 61)).ownsRow wA.heap.size 61 2 v 0 (prCells (([] : List (Int × List UInt8)).map pairA)) ∧ v = .slice (some ⟨wA.heap.size, 0, none⟩) 0 0) ∧ Ext wA (wA.alloc (.cells #[] 61))) := Lib.hid ⟨⟨_, World.ownsRow_made wA #[] 0 (Nat.le_refl _) (by simp) rfl, rfl⟩, Ext.alloc _ _⟩
    have HE := Lib.hid heA
    have Hb1 := Lib.hid hb1
    have Hb2 := Lib.hid hb2
    have HsA := Lib.hid (Hs.out.ext heA)
    have hzA := heA.size
    have hb1l := Blk.lt hb1
    have hb2l := Blk.lt hb2
    generalize hRR : scanOf m d.interval h.fin 1 = R at *
    clear heA hb1 hb2
    go_wp2_with fail
    go_loopw [9, 10] (fun v i wr => ∃ (pg : Int) (pre : List (Int × List UInt8)), i = .int .i64 pg ∧ 1 ≤ pg ∧ pg ≤ 16777217 ∧ Ext wA wr ∧ wr.ownsRow wA.heap.size 61 2 v pre.length (prCells (pre.map pairA)) ∧ pre ++ (scanOf m d.interval h.fin pg).1 = R.1 ∧ (scanOf m d.interval h.fin pg).2 = R.2) (fun _ i _ => (h.fin + 1 - intOf i).toNat)
    case atStart =>
      obtain ⟨⟨v, ho, rfl⟩, he⟩ := HA.out
      exact ⟨1, [], rfl, by omega, by omega, he, ho, by rw [hRR]; exact HR0.out, by rw [hRR]⟩
    case round =>
      obtain ⟨pg, pre, rfl, hp1, hp2, hex, hown, hfst, hsnd⟩ := hrel
      have c2 : wr.cell? ⟨w.heap.size, 2, none⟩ = some (.int .i64 h.fin) := Blk.val (Hb1.out.ext hex) 2 _ rfl
      obtain ⟨qo, co, rfl⟩ := own_slice hown
      have hds := Hb2.out.ext hex
      have HL := Lib.hid (Load_ref p cap n m d pg wr (HsA.out.ext hex) Hn.out Hm.out)
      have Hex := Lib.hid hex
      have Hown := Lib.hid hown
      clear hRR hex hown
      by_cases hle : pg ≤ h.fin
      · have hleI : decide (pg ≤ h.fin) = true := decide_eq_true hle
        have hpm : 0 ≤ pg * d.interval ∧ pg * d.interval ≤ 8589934592 := by
          have h1 := Int.mul_le_mul (show pg ≤ 16777216 by omega) hi1 (by omega) (by omega)
          have h2 := Int.mul_nonneg (show (0 : Int) ≤ pg by omega) (show 0 ≤ d.interval by omega)
          omega
        obtain ⟨hpm0, hpm1⟩ := hpm
        by_cases hld : (loadOf m d.interval pg).2 = 0
        · have HL2 : Hid (Calls Tryd.prog 41 #[.slice p n cap, .agg #[.int .i64 d.id, .int .i64 d.org, .int .i64 d.format, .int .i64 d.length, .int .i64 d.block, .int .i64 d.keyAt, .int .i64 d.keyLength, .int .i64 d.interval, .int .i64 d.area, .int .i64 d.freeInterval, .int .i64 d.freeArea, .int .i64 d.base, .int .i64 d.altAt, .int .i64 d.altLength, .bool d.unique, .int .i64 d.cls, .string ⟨d.volume.toArray⟩, .string ⟨d.owner.toArray⟩, .int .i64 d.created, .int .i64 d.expires, .bool d.archived], .int .i64 pg] wr fun e w2 => ∃ q2 c2, e = .returned (.tuple #[.slice q2 (loadOf m d.interval pg).1.length c2, .int .i64 0]) ∧ Ext wr w2 ∧ Small (loadOf m d.interval pg).1 ∧ w2.ownsRow wr.heap.size 9 1 (.slice q2 (loadOf m d.interval pg).1.length c2) (loadOf m d.interval pg).1.length ((loadOf m d.interval pg).1.map fun s => .string ⟨s.toArray⟩)) :=
            Lib.hid (HL.out.mono fun e w2 ⟨he2, h⟩ => by
              rcases h with ⟨h1, _⟩ | ⟨_, q2, c2, h2, h3, h4⟩
              · exact absurd hld h1
              · exact ⟨q2, c2, h2, he2, h3, h4⟩)
          have HSc := Lib.hid (scan_ok hle hld)
          obtain ⟨hsum, hlen⟩ := load_sum hld
          have Hfst := Lib.hid hfst
          have Hsnd := Lib.hid hsnd
          generalize (loadOf m d.interval pg).1 = L at *
          clear hld HL hfst hsnd
          go_upto_region 11 with (first | (refine wpList_ds rfl (.tmp 5) rfl _ rfl d hds ?_) | (go_at_call 41; refine HL2.out.mono ?_; rintro e w2 ⟨q2, c2, rfl, he2, hsm, hown2⟩; have c3 := (show w2.cell? ⟨w.heap.size + 1, 7, none⟩ = some (.int .i64 d.interval) from Blk.val (he2.blk _ _ hds) 7 _ rfl)))
          have HRel : Hid (Ext wA w2 ∧ w2.ownsRow wr.heap.size 9 1 (.slice q2 L.length c2) L.length (L.map fun s => .string ⟨s.toArray⟩) ∧ w2.ownsRow wA.heap.size 61 2 (.slice qo pre.length co) (pre ++ chunkA (pg * d.interval) (L.take 0)).length (prCells ((pre ++ chunkA (pg * d.interval) (L.take 0)).map pairA))) := Lib.hid ⟨Hex.out.trans he2, hown2, by simpa [chunkA] using own_ext Hown.out he2⟩
          have Hsm := Lib.hid hsm
          have hll : L.length ≤ 1000000 := hsm.1
          have Hds := Lib.hid hds
          clear hown2 hsm he2 hds
          generalize wr.heap.size = B2 at *
          go_wp2_with fail
          go_loopw [9, 13, 14] (fun v at_ i wr => ∃ k : Nat, k ≤ L.length ∧ i = .int .i64 k ∧ at_ = .int .i64 (pg * d.interval + (sumLen (L.take k) : Int)) ∧ Ext wA wr ∧ wr.ownsRow B2 9 1 (.slice q2 L.length c2) L.length (L.map fun s => .string ⟨s.toArray⟩) ∧ wr.ownsRow wA.heap.size 61 2 v (pre ++ chunkA (pg * d.interval) (L.take k)).length (prCells ((pre ++ chunkA (pg * d.interval) (L.take k)).map pairA))) (fun _ _ i _ => L.length - (intOf i).toNat)
          case atStart => exact ⟨0, Nat.zero_le _, rfl, by simp [sumLen], HRel.out⟩
          case round =>
            obtain ⟨k, hk, rfl, rfl, hex, hownl, hown⟩ := hrel
            have hst := sumLen_takeLe L k
            obtain ⟨qv, cv, rfl⟩ := own_slice hown
            by_cases hlt : k < L.length
            · have hltI : (k : Int) < L.length := by omega
              obtain ⟨q3, c3', he3, hsq, _, _, _⟩ := own_strs_p hownl
              cases he3
              obtain ⟨b, off, rfl, hbb, hc⟩ := hsq.at k hlt
              have hck := hc k hlt
              have HT := Lib.hid (chunkA_take (pg * d.interval) L k hlt)
              have HU := Lib.hid (sumLen_take1 L k hlt)
              have hsl := Hsm.out.at k
              have hpre : (pre ++ chunkA (pg * d.interval) (L.take k)).length ≤ 6000000 := by
                have h1 := Hfst.out
                rw [HSc.out] at h1
                have h2 := congrArg List.length h1
                have h3 := (chunkA_pre (pg * d.interval) L k).length_le
                simp only [List.length_append] at h2 ⊢
                omega
              obtain ⟨s, Hs8'⟩ : ∃ s, L.getD k [] = s := ⟨_, rfl⟩
              have Hs8 := Lib.hid Hs8'
              rw [Hs8'] at hck HT HU hsl
              clear Hs8'
              have hst2 := sumLen_takeLe L (k + 1)
              rw [HU.out] at hst2
              generalize sumLen (L.take k) = sk at *
              generalize hat : pg * d.interval + (sk : Int) = at_ at *
              have hat0 : 0 ≤ at_ ∧ at_ ≤ 8589935104 := by omega
              obtain ⟨ha0, ha1⟩ := hat0
              have Hhat := Lib.hid hat
              have Hpre := Lib.hid (show prCells ((pre ++ chunkA (pg * d.interval) (L.take (k + 1))).map pairA) = prCells ((pre ++ chunkA (pg * d.interval) (L.take k)).map pairA) ++ [.string ⟨(slotL at_).toArray⟩, .string ⟨s.toArray⟩] by rw [HT.out]; simp [prCells, pairA])
              have Hprl := Lib.hid (show (pre ++ chunkA (pg * d.interval) (L.take (k + 1))).length = (pre ++ chunkA (pg * d.interval) (L.take k)).length + 1 by rw [HT.out]; simp; omega)
              generalize pre ++ chunkA (pg * d.interval) (L.take k) = pre1 at *
              have HSl := Lib.hid (Slot_ref at_)
              have Hex2 := Lib.hid hex
              have Hownl := Lib.hid hownl
              have Hown2 := Lib.hid hown
              have hzr := hex.size
              clear hc hsq hex hownl hown hat
              go_upto_region 15 with (fail)
              refine wp_region_mk 9 (Ext.refl wr) (by kernel_rfl) (by kernel_rfl) (by kernel_rfl) ?_
              simp only [List.take_succ_cons, List.take_zero, List.take_nil, List.drop_succ_cons, List.drop_zero, List.drop_nil, List.map_cons, List.map_nil]
              repeat (first
                | (refine wpML_fact (o := ⟨some 56, _, _, _, _, _⟩) (Fresh 1 1 (.cells #[.string ⟨(slotL at_).toArray⟩, .string ⟨s.toArray⟩] 61)) (Fresh.stable _ _ _) rfl ?_ ?_
                   · intro a w' he hr K hK
                     simp [Reads, Oper.looksAt, Op.operands, Call.operands, factAt, Is] at hr
                     go_simp
                     exact hK _ _ (Ext.alloc _ _) (Fresh.new _ _ _ _)
                   simp only [setL, List.set_cons_succ, List.set_cons_zero])
                | (refine wpML_move _ _ rfl (by first | exact .inl rfl | exact .inr rfl) rfl (by first | exact Is.stable _ | exact AllF.stable _ _ | exact RowsF.stable _ _ _ _ _ | exact AppF.stable _ | exact WrF.stable _ | exact PtrF.stable _ _ | exact IfcF.stable (Fresh.stable _ _ _) _ | exact PairF.stable (RowF.stable _ _ _ _) _ | exact RowF.stable _ _ _ _ | exact Fresh.stable _ _ _) ?_
                   simp only [setL, List.set_cons_succ, List.set_cons_zero, List.getD_cons_succ, List.getD_cons_zero])
                | (refine wpML_moveC _ rfl (by first | exact .inl rfl | exact .inr rfl) ?_
                   simp only [setL, List.set_cons_succ, List.set_cons_zero])
                | (apply wpML_det rfl
                   · intro a w' he hr K hK
                     simp [Reads, Oper.looksAt, Op.operands, Call.operands, factAt, Is] at hr
                     have hx := he.cell
                     go_simp
                     try go_bits
                     try (rw [if_neg (by omega)]; go_simp)
                     first
                       | exact hK _ (Ext.refl _)
                       | (refine (HSl.out _).mono ?_; rintro e w'' ⟨rfl, he'⟩; exact hK _ he')
                   simp only [setL, List.set_cons_succ, List.set_cons_zero])
                | (apply wpML_det rfl
                   · intro a w' he hr K hK
                     simp [Reads, Oper.looksAt, Op.operands, Call.operands, factAt, Fresh] at hr
                     obtain ⟨b, hr1, hr2⟩ := hr
                     go_simp
                     exact hK _ (Ext.refl _)
                   simp only [setL, List.set_cons_succ, List.set_cons_zero]))
              intro w2 he2
              repeat (first | with_reducible refine rest_is _ _ _ _ ?_ | (with_reducible refine rest_fact _ _ _ _ ?_; intro _ _) | with_reducible refine rest_end _ _ ?_)
              simp only [List.reverse_cons, List.reverse_nil, List.nil_append, List.cons_append]
              rename_i x56 h56
              obtain ⟨b56, rfl, hb56⟩ := h56
              have Hb56 := Lib.hid hb56
              have Hownl3 := Lib.hid (own_ext Hownl.out he2)
              have Hown3 := Lib.hid (own_ext Hown2.out he2)
              have Hex3 := Lib.hid (Hex2.out.trans he2)
              have hz3 := he2.size
              have hck3 := (he2.cell b _ hbb).trans hck
              clear hb56 he2 hck
              go_wp2_with (at_builtin; go_must (refine wpList_app rfl (.tmp 48) (.tmp 56) 40 61 rfl wA.heap.size (.agg #[.string ByteArray.empty, .string ByteArray.empty]) 2 32 Tryd.underlying40 infoPair rfl (by decide) _ pre1.length _ rfl Hown3.out _ [.string ⟨(slotL at_).toArray⟩, .string ⟨s.toArray⟩] rfl Hb56.out rfl (by intro u hu; simp at hu; rcases hu with rfl | rfl <;> rfl) (by omega) (by decide) (by omega) ?_; intro v8 w8 hout8 hgr8; have hE8 := Ext.trans' Hex3.out (Below.of_grown (B := wA.heap.size) hgr8 Hown3.out (Nat.le_refl _) (by omega)); have hl8 := Hownl3.out.kept hgr8 (own_apart Hownl3.out Hown3.out (by decide)); have hck8 := (show w8.cell? ⟨b, off + k, none⟩ = some (.string ⟨s.toArray⟩) from by obtain ⟨_, _, hq8, hs8, _⟩ := own_strs_p hl8; cases hq8; obtain ⟨b', off', hbo, _, hc'⟩ := hs8.at k hlt; cases hbo; rw [hc' k hlt, Hs8.out])))
              go_roundw
              case rel => exact ⟨k + 1, by omega, by go_num, by rw [HU.out, ← Hhat.out]; go_num, hE8, hl8, by rw [Hpre.out, Hprl.out]; exact hout8⟩
              case measure => simp [intOf]; omega
            · have hltI : decide ((k : Int) < L.length) = false := decide_eq_false (by omega)
              obtain rfl : k = L.length := by omega
              rw [List.take_length] at hown ⊢
              have h1 := Hfst.out
              have h2 := Hsnd.out
              rw [HSc.out] at h1 h2
              go_wp2_with fail
              refine ⟨⟨pg + 1, pre ++ chunkA (pg * d.interval) L, by go_num, by omega, by omega, hex, hown, by rw [List.append_assoc]; exact h1, h2⟩, ?_⟩
              simp [intOf]
              omega
        · have HL2 : Hid (Calls Tryd.prog 41 #[.slice p n cap, .agg #[.int .i64 d.id, .int .i64 d.org, .int .i64 d.format, .int .i64 d.length, .int .i64 d.block, .int .i64 d.keyAt, .int .i64 d.keyLength, .int .i64 d.interval, .int .i64 d.area, .int .i64 d.freeInterval, .int .i64 d.freeArea, .int .i64 d.base, .int .i64 d.altAt, .int .i64 d.altLength, .bool d.unique, .int .i64 d.cls, .string ⟨d.volume.toArray⟩, .string ⟨d.owner.toArray⟩, .int .i64 d.created, .int .i64 d.expires, .bool d.archived], .int .i64 pg] wr fun e w2 => e = .returned (.tuple #[.slice none 0 0, .int .i64 (loadOf m d.interval pg).2]) ∧ Ext wr w2) :=
            Lib.hid (HL.out.mono fun e w2 ⟨he2, h⟩ => by
              rcases h with ⟨_, h1⟩ | ⟨h1, _⟩
              · exact ⟨h1, he2⟩
              · exact absurd h1 hld)
          have HSc := Lib.hid (scan_bad hle hld)
          have hldI : ((loadOf m d.interval pg).2 != 0) = true := by simpa using hld
          have Hld := Lib.hid hld
          generalize (loadOf m d.interval pg).2 = er at *
          clear hld HL
          go_wp2_with (first | (refine wpList_ds rfl (.tmp 5) rfl _ rfl d hds ?_) | (go_at_call 41; refine HL2.out.mono ?_; rintro e w2 ⟨rfl, he2⟩))
          go_ret2
          rw [HSc.out] at hsnd
          simp only at hsnd
          exact allOut_no (HE.out.trans (Hex.out.trans he2)) (by rw [HR.out, if_pos (by rw [← hsnd]; exact Hld.out), ← hsnd])
      · have hleI : decide (pg ≤ h.fin) = false := decide_eq_false hle
        rw [scan_end (by omega)] at hfst hsnd
        simp only [List.append_nil] at hfst hsnd
        have Hfst := Lib.hid hfst
        have Hsnd := Lib.hid hsnd
        clear hfst hsnd
        go_wp2_with fail
        go_ret2
        have hfst := Hfst.out
        have hsnd := Hsnd.out
        show AllOut (allOf m h d) w (.returned (.tuple #[.slice qo pre.length co, .int .i64 0])) wr
        exact allOut_yes (A := pre.map pairA) (HE.out.trans Hex.out) (by rw [HR.out, if_neg (by rw [← hsnd]; simp), hfst]) (by simp) (by simpa using own_le Hown.out hzA)
  · have HR : Hid (allOf m h d = ([], doorOf h d 1)) := Lib.hid (by unfold allOf; rw [if_pos hdo])
    have hdI : (doorOf h d 1 != 0) = true := by simpa using hdo
    generalize doorOf h d 1 = er at *
    clear hdo
    go_enter Tryd.func33, Tryd.ntmps33
    go_upto_region 1 with (fail)
    refine wp_name (fun w0 => Ext w w0 ∧ HdAt w0 w.heap.size h ∧ DsAt w0 (w.heap.size + 1) d) (hd_ds w h d) ?_
    rintro w0 ⟨he0, hb1, hb2⟩
    go_wp2_with (first | (refine wpList_ds rfl (.tmp 5) rfl _ rfl d hb2 ?_) | (refine wpList_hd rfl (.tmp 4) rfl _ rfl h hb1 ?_) | (go_at_call 40; refine (HDo.out _).mono ?_; rintro e w1 ⟨rfl, he1⟩))
    go_ret2
    exact allOut_no (he0.trans he1) HR.out
end Go.Proofs.YtkhlglkipeoalaaDoor
/- The program's Next. -/
namespace Dsd
/-- Where Next begins. -/
def startP (size a : Int) : Int := if size ≤ a then a / size else 1
/-- What Next answers: the address, the record, the error. -/
noncomputable def nextOf (m : Recs) (h : Hd) (d : DS) (a : Int) : (Int × List UInt8) × Int :=
  if doorOf h d 1 ≠ 0 then ((0, []), doorOf h d 1) else
    match (scanOf m d.interval h.fin (startP d.interval a)).1.find? (fun x => decide (a < x.1)) with
    | some x => (x, 0)
    | none => ((0, []), if (scanOf m d.interval h.fin (startP d.interval a)).2 = 0 then 6 else (scanOf m d.interval h.fin (startP d.interval a)).2)
end Dsd
namespace Go.Proofs.YtkhlglkipeoalaaDoor
open Go.RowKit Dsd
attribute [local go_sem] Oper.semAt_some
/-- What Next hands back. -/
def NextOut (R : (Int × List UInt8) × Int) (w : World) (e : Ending) (w' : World) : Prop :=
  e = .returned (.tuple #[.int .i64 R.1.1, .string ⟨R.1.2.toArray⟩, .int .i64 R.2]) ∧ Ext w w'
/-- The variables that Next hands back. -/
structure NvAt (b : Nat) (x : Int) (s : List UInt8) (e : Int) (w : World) : Prop where
  c1 : Blk w b (.cells #[.int .i64 x] 3)
  c2 : Blk w (b + 1) (.cells #[.string ⟨s.toArray⟩] 9)
  c3 : Blk w (b + 1 + 1) (.cells #[.int .i64 e] 31)
theorem NvAt.ext {b : Nat} {x : Int} {s : List UInt8} {e : Int} {w w' : World} (n : NvAt b x s e w) (h : Ext w w') : NvAt b x s e w' := ⟨h.blk _ _ n.c1, h.blk _ _ n.c2, h.blk _ _ n.c3⟩
theorem results_nv {tmps : Array Value} {w : World} {b : Nat} {x : Int} {s : List UInt8} {e : Int} (n : NvAt b x s e w)
    (h1 : tmps.getD 8 undef = .pointer (some ⟨b, 0, none⟩)) (h2 : tmps.getD 9 undef = .pointer (some ⟨b + 1, 0, none⟩)) (h3 : tmps.getD 10 undef = .pointer (some ⟨b + 1 + 1, 0, none⟩)) :
    (results Tryd.f31 tmps).run Tryd.prog w = .ok (.tuple #[.int .i64 x, .string ⟨s.toArray⟩, .int .i64 e]) w := by
  have c1 := Blk.val n.c1 0 _ rfl
  have c2 := Blk.val n.c2 0 _ rfl
  have c3 := Blk.val n.c3 0 _ rfl
  have h1' : tmps[8]?.getD undef = .pointer (some ⟨b, 0, none⟩) := by simpa using h1
  have h2' : tmps[9]?.getD undef = .pointer (some ⟨b + 1, 0, none⟩) := by simpa using h2
  have h3' : tmps[10]?.getD undef = .pointer (some ⟨b + 1 + 1, 0, none⟩) := by simpa using h3
  simp [results, Tryd.results31, asAddr, Sem.run_bind, h1', h2', h3', go_sem, c1, c2, c3]

theorem next_start (w w0 : World) (h : Hd) (d : DS) (a : Int) (hw0 : w0 = (((((w.alloc (.cells #[.int .i64 h.applied, .int .i64 h.count, .int .i64 h.fin, .int .i64 h.root, .int .i64 h.height, .int .i64 h.splits, .int .i64 h.areas] 28)).alloc (.cells #[.int .i64 d.id, .int .i64 d.org, .int .i64 d.format, .int .i64 d.length, .int .i64 d.block, .int .i64 d.keyAt, .int .i64 d.keyLength, .int .i64 d.interval, .int .i64 d.area, .int .i64 d.freeInterval, .int .i64 d.freeArea, .int .i64 d.base, .int .i64 d.altAt, .int .i64 d.altLength, .bool d.unique, .int .i64 d.cls, .string ⟨d.volume.toArray⟩, .string ⟨d.owner.toArray⟩, .int .i64 d.created, .int .i64 d.expires, .bool d.archived] 23)).alloc (.cells #[.int .i64 a] 3)).alloc (.cells #[.int .i64 0] 3)).alloc (.cells #[.string ⟨#[]⟩] 9)).alloc (.cells #[.int .i64 0] 31)) :
    Ext w w0 ∧ HdAt w0 w.heap.size h ∧ DsAt w0 (w.heap.size + 1) d ∧ Blk w0 (w.heap.size + 1 + 1) (.cells #[.int .i64 a] 3) ∧ NvAt (w.heap.size + 1 + 1 + 1) 0 [] 0 w0 := by
  have e1 := Ext.alloc w (.cells #[.int .i64 h.applied, .int .i64 h.count, .int .i64 h.fin, .int .i64 h.root, .int .i64 h.height, .int .i64 h.splits, .int .i64 h.areas] 28)
  have k1 := Blk.new w (.cells #[.int .i64 h.applied, .int .i64 h.count, .int .i64 h.fin, .int .i64 h.root, .int .i64 h.height, .int .i64 h.splits, .int .i64 h.areas] 28)
  generalize hA : w.alloc (.cells #[.int .i64 h.applied, .int .i64 h.count, .int .i64 h.fin, .int .i64 h.root, .int .i64 h.height, .int .i64 h.splits, .int .i64 h.areas] 28) = A at *
  have zA : A.heap.size = w.heap.size + 1 := by rw [← hA]; simp
  have e2 := Ext.alloc A (.cells #[.int .i64 d.id, .int .i64 d.org, .int .i64 d.format, .int .i64 d.length, .int .i64 d.block, .int .i64 d.keyAt, .int .i64 d.keyLength, .int .i64 d.interval, .int .i64 d.area, .int .i64 d.freeInterval, .int .i64 d.freeArea, .int .i64 d.base, .int .i64 d.altAt, .int .i64 d.altLength, .bool d.unique, .int .i64 d.cls, .string ⟨d.volume.toArray⟩, .string ⟨d.owner.toArray⟩, .int .i64 d.created, .int .i64 d.expires, .bool d.archived] 23)
  have k2 := Blk.new A (.cells #[.int .i64 d.id, .int .i64 d.org, .int .i64 d.format, .int .i64 d.length, .int .i64 d.block, .int .i64 d.keyAt, .int .i64 d.keyLength, .int .i64 d.interval, .int .i64 d.area, .int .i64 d.freeInterval, .int .i64 d.freeArea, .int .i64 d.base, .int .i64 d.altAt, .int .i64 d.altLength, .bool d.unique, .int .i64 d.cls, .string ⟨d.volume.toArray⟩, .string ⟨d.owner.toArray⟩, .int .i64 d.created, .int .i64 d.expires, .bool d.archived] 23)
  generalize hB : A.alloc (.cells #[.int .i64 d.id, .int .i64 d.org, .int .i64 d.format, .int .i64 d.length, .int .i64 d.block, .int .i64 d.keyAt, .int .i64 d.keyLength, .int .i64 d.interval, .int .i64 d.area, .int .i64 d.freeInterval, .int .i64 d.freeArea, .int .i64 d.base, .int .i64 d.altAt, .int .i64 d.altLength, .bool d.unique, .int .i64 d.cls, .string ⟨d.volume.toArray⟩, .string ⟨d.owner.toArray⟩, .int .i64 d.created, .int .i64 d.expires, .bool d.archived] 23) = B at *
  have zB : B.heap.size = w.heap.size + 1 + 1 := by rw [← hB]; simp [zA]
  have e3 := Ext.alloc B (.cells #[.int .i64 a] 3)
  have k3 := Blk.new B (.cells #[.int .i64 a] 3)
  generalize hC : B.alloc (.cells #[.int .i64 a] 3) = C at *
  have zC : C.heap.size = w.heap.size + 1 + 1 + 1 := by rw [← hC]; simp [zB]
  have e4 := Ext.alloc C (.cells #[.int .i64 0] 3)
  have k4 := Blk.new C (.cells #[.int .i64 0] 3)
  generalize hD : C.alloc (.cells #[.int .i64 0] 3) = D at *
  have zD : D.heap.size = w.heap.size + 1 + 1 + 1 + 1 := by rw [← hD]; simp [zC]
  have e5 := Ext.alloc D (.cells #[.string ⟨#[]⟩] 9)
  have k5 := Blk.new D (.cells #[.string ⟨#[]⟩] 9)
  generalize hE : D.alloc (.cells #[.string ⟨#[]⟩] 9) = E at *
  have zE : E.heap.size = w.heap.size + 1 + 1 + 1 + 1 + 1 := by rw [← hE]; simp [zD]
  have e6 := Ext.alloc E (.cells #[.int .i64 0] 31)
  have k6 := Blk.new E (.cells #[.int .i64 0] 31)
  subst hw0
  rw [zA] at k2; rw [zB] at k3; rw [zC] at k4; rw [zD] at k5; rw [zE] at k6
  exact ⟨e1.trans (e2.trans (e3.trans (e4.trans (e5.trans e6)))), (e2.trans (e3.trans (e4.trans (e5.trans e6)))).blk _ _ k1, (e3.trans (e4.trans (e5.trans e6))).blk _ _ k2, (e4.trans (e5.trans e6)).blk _ _ k3, (e5.trans e6).blk _ _ k4, e6.blk _ _ k5, k6⟩

theorem nv_set {b : Nat} {x0 : Int} {s0 : List UInt8} {e0 : Int} {W : World} (n : NvAt b x0 s0 e0 W) (x : Int) (s : List UInt8) (e : Int) :
    NvAt b x s e (((W.setCell ⟨b, 0, none⟩ (.int .i64 x)).setCell ⟨b + 1, 0, none⟩ (.string ⟨s.toArray⟩)).setCell ⟨b + 1 + 1, 0, none⟩ (.int .i64 e)).drew ∧
      (∀ w, Ext w W → w.heap.size ≤ b → Ext w (((W.setCell ⟨b, 0, none⟩ (.int .i64 x)).setCell ⟨b + 1, 0, none⟩ (.string ⟨s.toArray⟩)).setCell ⟨b + 1 + 1, 0, none⟩ (.int .i64 e)).drew) ∧
      ∀ B, KeepsFrom B W (((W.setCell ⟨b, 0, none⟩ (.int .i64 x)).setCell ⟨b + 1, 0, none⟩ (.string ⟨s.toArray⟩)).setCell ⟨b + 1 + 1, 0, none⟩ (.int .i64 e)).drew := by
  have k1 := Chg.setCell (w := W) (g := b) (i := 0) (v := .int .i64 x)
  have a1 : Blk (W.setCell ⟨b, 0, none⟩ (.int .i64 x)) b (.cells #[.int .i64 x] 3) := Blk.setCell n.c1
  have a2 := k1.blk n.c2 (by omega)
  have a3 := k1.blk n.c3 (by omega)
  have q1 := fun B => KeepsFrom.of_chg (B := B) k1 n.c1
  generalize W.setCell ⟨b, 0, none⟩ (.int .i64 x) = W1 at *
  have k2 := Chg.setCell (w := W1) (g := b + 1) (i := 0) (v := .string ⟨s.toArray⟩)
  have b1 := k2.blk a1 (by omega)
  have b2 : Blk (W1.setCell ⟨b + 1, 0, none⟩ (.string ⟨s.toArray⟩)) (b + 1) (.cells #[.string ⟨s.toArray⟩] 9) := Blk.setCell a2
  have b3 := k2.blk a3 (by omega)
  have q2 := fun B => KeepsFrom.of_chg (B := B) k2 a2
  generalize W1.setCell ⟨b + 1, 0, none⟩ (.string ⟨s.toArray⟩) = W2 at *
  have k3 := Chg.setCell (w := W2) (g := b + 1 + 1) (i := 0) (v := .int .i64 e)
  have d1 := k3.blk b1 (by omega)
  have d2 := k3.blk b2 (by omega)
  have d3 : Blk (W2.setCell ⟨b + 1 + 1, 0, none⟩ (.int .i64 e)) (b + 1 + 1) (.cells #[.int .i64 e] 31) := Blk.setCell b3
  have q3 := fun B => KeepsFrom.of_chg (B := B) k3 b3
  generalize W2.setCell ⟨b + 1 + 1, 0, none⟩ (.int .i64 e) = W3 at *
  exact ⟨⟨d1, d2, d3⟩, fun w he hb => ((k3.ext (k2.ext (k1.ext he hb) (by omega)) (by omega))).trans (Ext.drew _), fun B => (((q1 B).trans (q2 B)).trans (q3 B)).trans (KeepsFrom.of_ext (Ext.drew _))⟩
theorem NvAt.kc {b : Nat} {x : Int} {s : List UInt8} {e : Int} {w w' : World} {n0 g1 eb : Nat} (n : NvAt b x s e w) (k : Kc n0 (tIt g1 eb) w w') (h1 : b + 1 + 1 < g1) (h2 : b + 1 + 1 < eb) : NvAt b x s e w' :=
  ⟨k.blk n.c1 (by rintro (⟨h, _⟩ | ⟨h, _⟩) <;> omega), k.blk n.c2 (by rintro (⟨h, _⟩ | ⟨h, _⟩) <;> omega), k.blk n.c3 (by rintro (⟨h, _⟩ | ⟨h, _⟩) <;> omega)⟩
theorem find_none {l : List (Int × List UInt8)} {a : Int} (h : ∀ x ∈ l, ¬ a < x.1) : l.find? (fun x => decide (a < x.1)) = none := by
  rw [List.find?_eq_none]
  intro x hx
  simpa using h x hx
theorem find_pre {l pre : List (Int × List UInt8)} {x : Int × List UInt8} {a : Int} (h : ∀ y ∈ pre, ¬ a < y.1) (hx : a < x.1) (hp : pre ++ [x] <+: l) : l.find? (fun x => decide (a < x.1)) = some x := by
  obtain ⟨r, rfl⟩ := hp
  rw [List.append_assoc, List.find?_append, find_none h]
  simp [hx]
/-- Between two rounds. -/
def NxI (w : World) (nb ab : Nat) (a : Int) (pre : List (Int × List UInt8)) (W : World) : Prop := Ext w W ∧ Blk W ab (.cells #[.int .i64 a] 3) ∧ NvAt nb 0 [] 0 W ∧ ∀ x ∈ pre, ¬ a < x.1
/-- Where a round has returned. -/
def NxX (w : World) (nb : Nat) (a : Int) (c : Code) (pre : List (Int × List UInt8)) (W : World) : Prop := c = .ret ∧ Ext w W ∧ ∃ pre' x, pre = pre' ++ [x] ∧ (∀ y ∈ pre', ¬ a < y.1) ∧ a < x.1 ∧ NvAt nb x.1 x.2 0 W
theorem startP_eq {s a : Int} (h : 1 ≤ s) : max 1 (a.tdiv s) = startP s a := by
  unfold startP
  by_cases h1 : s ≤ a
  · rw [if_pos h1, Int.tdiv_eq_ediv_of_nonneg (by omega)]
    have : 1 ≤ a / s := by rw [Int.le_ediv_iff_mul_le (by omega)]; omega
    omega
  · rw [if_neg h1]
    have : a.tdiv s ≤ 0 := by
      by_cases h2 : 0 ≤ a
      · rw [Int.tdiv_eq_ediv_of_nonneg h2, Int.ediv_eq_zero_of_lt h2 (by omega)]; exact Int.le_refl _
      · have h3 : (-a).tdiv s = -(a.tdiv s) := Int.neg_tdiv ..
        have h4 : 0 ≤ (-a).tdiv s := Int.tdiv_nonneg (by omega) (by omega)
        omega
    omega
theorem startP_pos {s a : Int} (h : 1 ≤ s) : 1 ≤ startP s a := by rw [← startP_eq h]; omega
/-- The iterator's value, as a fact. -/
def ItF (B eb : Nat) (q : Value) (h : Hd) (d : DS) (pg er : Int) : Fact := fun x w => ∃ g1 g0 g2, B ≤ g1 ∧ x = .func (.func 74) #[] #[.pointer (some ⟨g1, 0, none⟩), .pointer (some ⟨g0, 0, none⟩), .pointer (some ⟨g2, 0, none⟩)] ∧ ItAt g1 g0 g2 eb q h d pg er w
theorem ItF.stable (B eb : Nat) (q : Value) (h : Hd) (d : DS) (pg er : Int) : (ItF B eb q h d pg er).stable := fun _ _ _ he ⟨g1, g0, g2, h1, h2, h3⟩ => ⟨g1, g0, g2, h1, h2, h3.ext he⟩

set_option maxRecDepth 100000 in
set_option maxHeartbeats 4000000 in
theorem Next_any (p : Option Addr) (n cap : Nat) (m : Recs) (h : Hd) (d : DS) (a : Int) (hwr : ∀ s : Int, 0 < s → IntKind.i64.wrap (a.tdiv s) = a.tdiv s) (w : World) (hs : Strs w p m) (hn : m.length = n) (hm : Small m) :
    Calls Tryd.prog 31 #[.iface 29 (.slice p n cap), .agg #[.int .i64 h.applied, .int .i64 h.count, .int .i64 h.fin, .int .i64 h.root, .int .i64 h.height, .int .i64 h.splits, .int .i64 h.areas], .agg #[.int .i64 d.id, .int .i64 d.org, .int .i64 d.format, .int .i64 d.length, .int .i64 d.block, .int .i64 d.keyAt, .int .i64 d.keyLength, .int .i64 d.interval, .int .i64 d.area, .int .i64 d.freeInterval, .int .i64 d.freeArea, .int .i64 d.base, .int .i64 d.altAt, .int .i64 d.altLength, .bool d.unique, .int .i64 d.cls, .string ⟨d.volume.toArray⟩, .string ⟨d.owner.toArray⟩, .int .i64 d.created, .int .i64 d.expires, .bool d.archived], .int .i64 a] w (NextOut (nextOf m h d a) w) := by
  have Hs := Lib.hid hs
  have Hn := Lib.hid hn
  have Hm := Lib.hid hm
  have Hop := Lib.hid (open_any p n cap h d)
  clear hs hn hm
  refine calls_of_wp_marks Tryd.func31 rfl ?_
  simp only [Tryd.ntmps31, List.size_toArray, List.length_cons, List.length_nil, Nat.reduceAdd, Nat.reduceSub, Array.replicate_succ, Array.replicate_zero, List.push_toArray, List.append_toArray, List.nil_append, List.cons_append]
  go_upto_region 1 with (fail)
  refine wp_name (fun w0 => Ext w w0 ∧ HdAt w0 w.heap.size h ∧ DsAt w0 (w.heap.size + 1) d ∧ Blk w0 (w.heap.size + 1 + 1) (.cells #[.int .i64 a] 3) ∧ NvAt (w.heap.size + 1 + 1 + 1) 0 [] 0 w0) (next_start w _ h d a rfl) ?_
  rintro w0 ⟨he0, hb1, hb2, hb3, hnv⟩
  have hwn : w.heap.size ≤ w.heap.size + 1 + 1 + 1 := by omega
  have hwn2 : w.heap.size + 1 + 1 < w.heap.size + 1 + 1 + 1 := by omega
  generalize w.heap.size + 1 + 1 + 1 = nb at *
  generalize hab : w.heap.size + 1 + 1 = ab at *
  have hwa : w.heap.size ≤ ab := by omega
  clear hab
  by_cases hdo : doorOf h d 1 = 0
  · have Hop2 : Hid (∀ w, Calls Tryd.prog 35 #[.iface 29 (.slice p n cap), .agg #[.int .i64 h.applied, .int .i64 h.count, .int .i64 h.fin, .int .i64 h.root, .int .i64 h.height, .int .i64 h.splits, .int .i64 h.areas], .agg #[.int .i64 d.id, .int .i64 d.org, .int .i64 d.format, .int .i64 d.length, .int .i64 d.block, .int .i64 d.keyAt, .int .i64 d.keyLength, .int .i64 d.interval, .int .i64 d.area, .int .i64 d.freeInterval, .int .i64 d.freeArea, .int .i64 d.base, .int .i64 d.altAt, .int .i64 d.altLength, .bool d.unique, .int .i64 d.cls, .string ⟨d.volume.toArray⟩, .string ⟨d.owner.toArray⟩, .int .i64 d.created, .int .i64 d.expires, .bool d.archived]] w fun e w' => e = .returned (.tuple #[.agg #[.iface 29 (.slice p n cap), .int .i64 h.applied, .int .i64 h.count, .int .i64 h.fin, .int .i64 h.root, .int .i64 h.height, .int .i64 h.splits, .int .i64 h.areas, .int .i64 d.id, .int .i64 d.org, .int .i64 d.format, .int .i64 d.length, .int .i64 d.block, .int .i64 d.keyAt, .int .i64 d.keyLength, .int .i64 d.interval, .int .i64 d.area, .int .i64 d.freeInterval, .int .i64 d.freeArea, .int .i64 d.base, .int .i64 d.altAt, .int .i64 d.altLength, .bool d.unique, .int .i64 d.cls, .string ⟨d.volume.toArray⟩, .string ⟨d.owner.toArray⟩, .int .i64 d.created, .int .i64 d.expires, .bool d.archived], .int .i64 0]) ∧ Ext w w') :=
      Lib.hid (fun w => (Hop.out w).mono fun e w' ⟨he, h⟩ => by
        rcases h with ⟨_, h⟩ | ⟨h, _⟩
        · exact ⟨h, he⟩
        · exact absurd hdo h)
    clear Hop
    obtain ⟨hva, hpl, hor⟩ := door_zero hdo
    have v3 := (valid_spec hva).2.2.1
    have p4 := (plain_spec hpl).2.2.2
    have hiv : 128 ≤ d.interval ∧ d.interval ≤ 512 := by rcases isSize_spec v3 with h | h | h <;> omega
    obtain ⟨hi0, hi1⟩ := hiv
    have HD := Lib.hid hdo
    have HR : Hid (nextOf m h d a = _) := Lib.hid (by unfold nextOf; rw [if_neg (by simp [HD.out])])
    have Hv3 := Lib.hid v3
    clear hdo hva hpl hor v3
    go_upto_region 2 with (first | (refine wpList_ds rfl (.tmp 6) rfl _ rfl d hb2 ?_) | (refine wpList_hd rfl (.tmp 5) rfl _ rfl h hb1 ?_) | (go_at_call 35; refine (Hop2.out _).mono ?_; rintro e w1 ⟨rfl, he1⟩) | (refine wpList_put rfl 77 (.tmp 11) (.tmp 19) rfl _ #[.iface 29 (.slice p n cap), .int .i64 h.applied, .int .i64 h.count, .int .i64 h.fin, .int .i64 h.root, .int .i64 h.height, .int .i64 h.splits, .int .i64 h.areas, .int .i64 d.id, .int .i64 d.org, .int .i64 d.format, .int .i64 d.length, .int .i64 d.block, .int .i64 d.keyAt, .int .i64 d.keyLength, .int .i64 d.interval, .int .i64 d.area, .int .i64 d.freeInterval, .int .i64 d.freeArea, .int .i64 d.base, .int .i64 d.altAt, .int .i64 d.altLength, .bool d.unique, .int .i64 d.cls, .string ⟨d.volume.toArray⟩, .string ⟨d.owner.toArray⟩, .int .i64 d.created, .int .i64 d.expires, .bool d.archived] rfl rfl _ _ (Blk.alloc (Blk.new w1 _) _) clSize rfl (cl_one _ rfl h d) ?_; intro w2 hcl hc2; have hb9 := hc2.blk (Blk.new1 (w1.alloc (.cells clZero 77)) (.cells #[.int .i64 0] 31) (w1.heap.size + 1) (by simp)) (by omega); have c9 := (show w2.cell? ⟨w1.heap.size + 1, 0, none⟩ = some (.int .i64 0) from Blk.val hb9 0 _ rfl); have f9 := (show w2.frozen? ⟨w1.heap.size + 1, 0, none⟩ = false from Blk.free hb9 0)))
    have hx2 : Ext w1 w2 := hc2.ext ((Ext.alloc _ _).trans (Ext.alloc _ _)) (Nat.le_refl _)
    have hc3 := Chg.setCell (w := w2) (g := w1.heap.size + 1) (i := 0) (v := .int .i64 0)
    have hx3 : Ext w1 (w2.setCell ⟨w1.heap.size + 1, 0, none⟩ (.int .i64 0)) := hc3.ext hx2 (by omega)
    refine wp_name (fun w3 => Ext w0 w3 ∧ Blk w3 w1.heap.size (.cells #[.iface 29 (.slice p n cap), .int .i64 h.applied, .int .i64 h.count, .int .i64 h.fin, .int .i64 h.root, .int .i64 h.height, .int .i64 h.splits, .int .i64 h.areas, .int .i64 d.id, .int .i64 d.org, .int .i64 d.format, .int .i64 d.length, .int .i64 d.block, .int .i64 d.keyAt, .int .i64 d.keyLength, .int .i64 d.interval, .int .i64 d.area, .int .i64 d.freeInterval, .int .i64 d.freeArea, .int .i64 d.base, .int .i64 d.altAt, .int .i64 d.altLength, .bool d.unique, .int .i64 d.cls, .string ⟨d.volume.toArray⟩, .string ⟨d.owner.toArray⟩, .int .i64 d.created, .int .i64 d.expires, .bool d.archived] 77) ∧ Blk w3 (w1.heap.size + 1) (.cells #[.int .i64 0] 31) ∧ w1.heap.size + 1 < w3.heap.size) ⟨he1.trans hx3, hc3.blk hcl (by omega), Blk.setCell hb9, by have := Blk.lt (Blk.setCell (i := 0) (v := .int .i64 0) hb9); exact this⟩ ?_
    have hcb0 := he1.size
    generalize w1.heap.size = cb at *
    clear hc3 hx2 hx3 hb9 hc2 hcl he1 c9 f9
    rintro w3 ⟨he3, hcl, heb, hz3⟩
    have c9 : w3.cell? ⟨cb + 1, 0, none⟩ = some (.int .i64 0) := Blk.val heb 0 _ rfl
    have c3 : w3.cell? ⟨ab, 0, none⟩ = some (.int .i64 a) := Blk.val (he3.blk _ _ hb3) 0 _ rfl
    have c7 : w3.cell? ⟨w.heap.size + 1, 7, none⟩ = some (.int .i64 d.interval) := Blk.val (hb2.ext he3) 7 _ rfl
    go_upto_region 4 with (fail)
    have hst := startP_eq (s := d.interval) (a := a) (by omega)
    have hsp := startP_pos (s := d.interval) (a := a) (by omega)
    have hq := hwr d.interval (by omega)
    have hs0 : ¬ d.interval = 0 := by omega
    obtain ⟨dv, hdv⟩ : ∃ dv, wrap64 (a.tdiv d.interval) = dv := ⟨_, rfl⟩
    have hmx : (if 1 < dv then dv else 1) = startP d.interval a := by
      have h1 : wrap64 (a.tdiv d.interval) = a.tdiv d.interval := by rw [← IntWalk.i64_left]; exact hq
      rw [← hst, ← h1, hdv]
      split <;> omega
    clear hst hq
    have Hcl := Lib.hid hcl
    have Heb := Lib.hid heb
    have hzr := he3.size
    have hbb1 := Blk.lt hb1
    have hbb2 := Blk.lt hb2
    have hbb3 := Blk.lt hb3
    have hab3 : ab < w3.heap.size := by omega
    have hds3 : w.heap.size + 1 < w3.heap.size := by omega
    generalize startP d.interval a = st at *
    have HRec := Lib.hid (fun w' (e : Ext w3 w') => (records_any (.iface 29 (.slice p n cap)) h d st 0 (cb + 1) w' (e.blk _ _ Heb.out)).mono (show ∀ (e' : Ending) (w'' : World), _ → (∃ v, e' = .returned v ∧ Ext w' w'' ∧ ItF w3.heap.size (cb + 1) (.iface 29 (.slice p n cap)) h d st 0 v w'') from fun e' w'' ⟨h1, g1, g0, g2, h2, h3, h4⟩ => ⟨_, h3, h1, g1, g0, g2, Nat.le_trans e.size h2, rfl, h4⟩))
    refine wp_region_mk 200 (Ext.refl w3) (by kernel_rfl) (by kernel_rfl) (by kernel_rfl) ?_
    simp only [List.take_succ_cons, List.take_zero, List.take_nil, List.drop_succ_cons, List.drop_zero, List.drop_nil, List.map_cons, List.map_nil]
    repeat (first
      | (refine wpML_det (o := ⟨some 24, _, _, _, _, _⟩) (v := .agg #[.iface 29 (.slice p n cap), .int .i64 h.applied, .int .i64 h.count, .int .i64 h.fin, .int .i64 h.root, .int .i64 h.height, .int .i64 h.splits, .int .i64 h.areas, .int .i64 d.id, .int .i64 d.org, .int .i64 d.format, .int .i64 d.length, .int .i64 d.block, .int .i64 d.keyAt, .int .i64 d.keyLength, .int .i64 d.interval, .int .i64 d.area, .int .i64 d.freeInterval, .int .i64 d.freeArea, .int .i64 d.base, .int .i64 d.altAt, .int .i64 d.altLength, .bool d.unique, .int .i64 d.cls, .string ⟨d.volume.toArray⟩, .string ⟨d.owner.toArray⟩, .int .i64 d.created, .int .i64 d.expires, .bool d.archived]) rfl ?_ ?_
         · intro a w' he hr K hK
           simp [Reads, Oper.looksAt, Op.operands, factAt, Is] at hr
           exact wp_load_row 77 (.tmp 11) rfl (cb) (by go_simp) _ _ _ _ (he.blk _ _ Hcl.out) clDesc rfl clSize (hK _ (Ext.refl _))
         simp only [setL, List.set_cons_succ, List.set_cons_zero])
      | (refine wpML_move _ _ rfl (by first | exact .inl rfl | exact .inr rfl) rfl (by first | exact Is.stable _ | exact AllF.stable _ _ | exact RowsF.stable _ _ _ _ _ | exact AppF.stable _ | exact WrF.stable _ | exact PtrF.stable _ _ | exact IfcF.stable (Fresh.stable _ _ _) _ | exact PairF.stable (RowF.stable _ _ _ _) _ | exact RowF.stable _ _ _ _ | exact Fresh.stable _ _ _) ?_
         simp only [setL, List.set_cons_succ, List.set_cons_zero, List.getD_cons_succ, List.getD_cons_zero])
      | (refine wpML_moveC _ rfl (by first | exact .inl rfl | exact .inr rfl) ?_
         simp only [setL, List.set_cons_succ, List.set_cons_zero])
      | (apply wpML_det rfl
         · intro a w' he hr K hK
           simp [Reads, Oper.looksAt, Op.operands, Call.operands, factAt, Is] at hr
           have hx := he.cell
           go_simp
           try go_bits
           try (rw [if_neg (by omega)]; go_simp)
           first
             | exact hK _ (Ext.refl _)
         simp only [setL, List.set_cons_succ, List.set_cons_zero])
      | (refine wpML_fact (o := ⟨some 30, _, _, _, _, _⟩) (ItF w3.heap.size (cb + 1) (.iface 29 (.slice p n cap)) h d st 0) (ItF.stable _ _ _ _ _ _ _) rfl ?_ ?_
         · intro a w' he hr K hK
           simp [Reads, Oper.looksAt, Op.operands, Call.operands, factAt, Is] at hr
           go_simp
           refine ((HRec.out w' he)).mono ?_
           rintro e w'' ⟨v, rfl, he', hf⟩
           exact hK _ _ he' hf
         simp only [setL, List.set_cons_succ, List.set_cons_zero])
      | (apply wpML_det rfl
         · intro a w' he hr K hK
           simp [Reads, Oper.looksAt, Op.operands, Call.operands, factAt, Fresh] at hr
           obtain ⟨b, hr1, hr2⟩ := hr
           go_simp
           exact hK _ (Ext.refl _)
         simp only [setL, List.set_cons_succ, List.set_cons_zero]))
    intro w2 he2
    repeat (first | with_reducible refine rest_is _ _ _ _ ?_ | (with_reducible refine rest_fact _ _ _ _ ?_; intro _ _) | with_reducible refine rest_end _ _ ?_)
    simp only [List.reverse_cons, List.reverse_nil, List.nil_append, List.cons_append]
    rename_i x30 h30
    obtain ⟨g1, g0, g2, hg1, rfl, hit⟩ := h30
    have hE4 : Ext w w2 := (he0.trans he3).trans he2
    have hnv4 := hnv.ext (he3.trans he2)
    have hb34 := (he3.trans he2).blk _ _ hb3
    have HIt := records_iter p n cap m h d st g1 g0 g2 (cb + 1) w w2 Hs.out Hn.out Hm.out Hv3.out p4 hsp hE4 (by omega) (by omega) hit (Blk.lt hit.page) (Blk.lt hit.err) (fun _ _ => False) (fun _ _ _ h => h)
    have hz12 := he3.size
    have hzw2 := hE4.size
    have hnc : nb + 1 + 1 < cb := by have := Blk.lt hnv.c3; omega
    have hgn : nb + 1 + 1 < g1 := by have := Blk.lt hnv.c3; omega
    generalize hRR : scanOf m d.interval h.fin st = R at *
    clear hRR
    have Hit := Lib.hid HIt
    clear HIt hit Hcl Heb he0 he3 he2 c9 c3 c7 hmx hdv HRec hb1 hb2 hb3 hnv
    go_wp2_with fail
    refine wp_rangeFunc_kc (n0 := w.heap.size) hE4.size (tI := tIt g1 (cb + 1)) rfl (enters_of Tryd.func74 (by kernel_rfl) rfl) (encs := encR) (fun x => rfl) (fun xs A B k hS => ⟨hS.1, k.blk hS.2 (fun h => h)⟩) (fun xs A B k hS => hS) Hit.out
      (NxI w nb ab a) (NxX w nb a)
      ?hI ?hIx ⟨hE4, hb34, hnv4, fun _ h => by simp at h⟩ ?round ?done ?stop
    case hI =>
      rintro pre A B k ⟨h1, h2, h3, h4⟩
      exact ⟨Ext.trans' h1 k.below, k.blk h2 (by rintro (⟨h, _⟩ | ⟨h, _⟩) <;> omega), h3.kc k (by omega) (by omega), h4⟩
    case hIx =>
      rintro c pre A B k ⟨h0, h1, pre', x, h2, h3, h4, h5⟩
      exact ⟨h0, Ext.trans' h1 k.below, pre', x, h2, h3, h4, h5.kc k (by omega) (by omega)⟩
    case round =>
      rintro l pre x W hz ⟨hex, hba, hnw, hno⟩ hnx
      dsimp only [encR]
      gi_wp2
      refine ⟨KeepsFrom.of_ext (Ext.alloc _ _), ?_⟩
      intro W2 hk2 hz2
      have hfb : Blk W2 W.heap.size (.cells #[.int .i64 x.1, .string ⟨x.2.toArray⟩] 103) := hk2.blk (Blk.new W _) (fun h => h)
      have hba2 := hk2.blk (hba.alloc (.cells #[.int .i64 x.1, .string ⟨x.2.toArray⟩] 103)) (fun h => h)
      have hex2 : Ext w W2 := Ext.trans' (hex.trans (Ext.alloc W (.cells #[.int .i64 x.1, .string ⟨x.2.toArray⟩] 103))) hk2.below
      have hnw2 : NvAt nb 0 [] 0 W2 := ⟨hk2.blk (hnw.c1.alloc _) (fun h => h), hk2.blk (hnw.c2.alloc _) (fun h => h), hk2.blk (hnw.c3.alloc _) (fun h => h)⟩
      have hkc : Kc w.heap.size (fun _ _ => False) W W2 := (Kc.of_ext (Ext.alloc W (.cells #[.int .i64 x.1, .string ⟨x.2.toArray⟩] 103)) hex.size).trans hk2
      have c0 : W2.cell? ⟨ab, 0, none⟩ = some (.int .i64 a) := Blk.val hba2 0 _ rfl
      have c1 : W2.cell? ⟨W.heap.size, 0, none⟩ = some (.int .i64 x.1) := Blk.val hfb 0 _ rfl
      have c2 : W2.cell? ⟨W.heap.size, 1, none⟩ = some (.string ⟨x.2.toArray⟩) := Blk.val hfb 1 _ rfl
      have Hfin := Lib.hid (show Kc w.heap.size (fun _ _ => False) W W2 ∧ Ext w W2 ∧ Blk W2 ab (.cells #[.int .i64 a] 3) ∧ NvAt nb 0 [] 0 W2 from ⟨hkc, hex2, hba2, hnw2⟩)
      have Hno := Lib.hid hno
      have d1 : W2.cell? ⟨nb, 0, none⟩ = some (.int .i64 0) := Blk.val hnw2.c1 0 _ rfl
      have d2 : W2.cell? ⟨nb + 1, 0, none⟩ = some (.string ⟨#[]⟩) := Blk.val hnw2.c2 0 _ rfl
      have d3 : W2.cell? ⟨nb + 1 + 1, 0, none⟩ = some (.int .i64 0) := Blk.val hnw2.c3 0 _ rfl
      have f1 : W2.frozen? ⟨nb, 0, none⟩ = false := Blk.free hnw2.c1 0
      have f2 : W2.frozen? ⟨nb + 1, 0, none⟩ = false := Blk.free hnw2.c2 0
      have f3 : W2.frozen? ⟨nb + 1 + 1, 0, none⟩ = false := Blk.free hnw2.c3 0
      have hzn := Blk.lt hnw.c3
      have g1 : W.heap.size ≠ nb := by omega
      have g2 : W.heap.size ≠ nb + 1 := by omega
      have g3 : W.heap.size ≠ nb + 1 + 1 := by omega
      obtain ⟨xa, xr⟩ := x
      simp only at c1 c2
      clear hfb hba hba2 hex hex2 hnw hnw2 hkc hk2 hz2 hno
      refine wpIn_block ?_
      by_cases hlt : a < xa
      · have hltI : decide (a < xa) = true := decide_eq_true hlt
        gi_wp2
        have hmo : Tryd.prog.follows .mixedOrders = true := by kernel_rfl
        gi_region_with_o (fail)
        all_goals
          gi_wp2
          have hns := nv_set Hfin.out.2.2.2 xa xr 0
          exact ⟨hns.2.2 _, rfl, hns.2.1 w Hfin.out.2.1 hwn, pre, (xa, xr), rfl, fun y hy => by have := Hno.out y hy; omega, by show a < xa; omega, hns.1⟩
      · have hltI : decide (a < xa) = false := decide_eq_false hlt
        gi_wp2
        exact ⟨KeepsFrom.refl _ _, Hfin.out.1, Hfin.out.2.1, Hfin.out.2.2.1, Hfin.out.2.2.2, fun y hy => by
          rw [List.mem_append] at hy
          rcases hy with hy | hy
          · have := Hno.out y hy; omega
          · simp at hy; subst hy; show ¬ a < xa; omega⟩
    case done =>
      rintro D xs W hD ⟨rfl, heb⟩ ⟨hex, hba, hnw, hno⟩ hK
      obtain ⟨RL, RE⟩ := R
      simp only at heb hno HR
      have HR3 : Hid (nextOf m h d a = ((0, []), if RE = 0 then 6 else RE)) := Lib.hid (by rw [HR.out, find_none hno])
      have c12 : W.cell? ⟨cb + 1, 0, none⟩ = some (.int .i64 RE) := Blk.val heb 0 _ rfl
      have f12 : W.frozen? ⟨cb + 1, 0, none⟩ = false := Blk.free heb 0
      dsimp only
      have Hst := Lib.hid (show Ext w W ∧ NvAt nb 0 [] 0 W ∧ Blk W (cb + 1) (.cells #[.int .i64 RE] 31) ∧ W.heap[D]? = some (.deferred (some [])) from ⟨hex, hnw, heb, hK⟩)
      clear hex hba hnw hno hK heb
      by_cases hre : RE = 0
      · subst hre
        go_upto_region 10 with (fail)
        have hc := Chg.setCell (w := W) (g := cb + 1) (i := 0) (v := .int .i64 6)
        refine wp_name (fun W' => Ext w W' ∧ NvAt nb 0 [] 0 W' ∧ Blk W' (cb + 1) (.cells #[.int .i64 6] 31) ∧ W'.heap[D]? = some (.deferred (some []))) ⟨hc.ext Hst.out.1 (by omega), ⟨hc.blk Hst.out.2.1.c1 (by omega), hc.blk Hst.out.2.1.c2 (by omega), hc.blk Hst.out.2.1.c3 (by omega)⟩, Blk.setCell Hst.out.2.2.1, (KeepsFrom.of_chg (B := 0) hc Hst.out.2.2.1).same _ _ (Nat.zero_le _) Hst.out.2.2.2 rfl⟩ ?_
        clear hc c12 f12 Hst
        rintro W' ⟨hex, hnw, heb, hK⟩
        have c9 : W'.cell? ⟨cb + 1, 0, none⟩ = some (.int .i64 6) := Blk.val heb 0 _ rfl
        have d1 : W'.cell? ⟨nb, 0, none⟩ = some (.int .i64 0) := Blk.val hnw.c1 0 _ rfl
        have d2 : W'.cell? ⟨nb + 1, 0, none⟩ = some (.string ⟨#[]⟩) := Blk.val hnw.c2 0 _ rfl
        have d3 : W'.cell? ⟨nb + 1 + 1, 0, none⟩ = some (.int .i64 0) := Blk.val hnw.c3 0 _ rfl
        have f1 : W'.frozen? ⟨nb, 0, none⟩ = false := Blk.free hnw.c1 0
        have f2 : W'.frozen? ⟨nb + 1, 0, none⟩ = false := Blk.free hnw.c2 0
        have f3 : W'.frozen? ⟨nb + 1 + 1, 0, none⟩ = false := Blk.free hnw.c3 0
        have hne : cb + 1 ≠ nb + 1 + 1 := by omega
        have hne2 : cb + 1 ≠ nb + 1 := by omega
        have hne3 : cb + 1 ≠ nb := by omega
        have Hnw := Lib.hid hnw
        have Hex := Lib.hid hex
        have HK := Lib.hid hK
        clear hnw hex hK heb
        go_region
        all_goals
          go_wp2_with fail
          have hns := nv_set Hnw.out 0 [] (6)
          have hK2 := (hns.2.2 0).same _ _ (Nat.zero_le _) HK.out rfl
          have hkp := Kc.of_put (n0 := w.heap.size) (tc := fun _ _ => False) (.deferred none) hK2 rfl (by omega)
          exact postM_mark hK2 (results_nv ⟨hkp.blk hns.1.c1 (fun h => h), hkp.blk hns.1.c2 (fun h => h), hkp.blk hns.1.c3 (fun h => h)⟩ rfl rfl rfl) ⟨by rw [HR3.out]; try rfl, Ext.trans' (hns.2.1 w Hex.out hwn) hkp.below⟩
      · have hreI : (RE == 0) = false := by simpa using hre
        rw [if_neg hre] at HR3
        clear hre
        go_upto_region 10 with (fail)
        refine wp_name (fun W' => Ext w W' ∧ NvAt nb 0 [] 0 W' ∧ Blk W' (cb + 1) (.cells #[.int .i64 RE] 31) ∧ W'.heap[D]? = some (.deferred (some []))) Hst.out ?_
        clear c12 f12 Hst
        rintro W' ⟨hex, hnw, heb, hK⟩
        have c9 : W'.cell? ⟨cb + 1, 0, none⟩ = some (.int .i64 RE) := Blk.val heb 0 _ rfl
        have d1 : W'.cell? ⟨nb, 0, none⟩ = some (.int .i64 0) := Blk.val hnw.c1 0 _ rfl
        have d2 : W'.cell? ⟨nb + 1, 0, none⟩ = some (.string ⟨#[]⟩) := Blk.val hnw.c2 0 _ rfl
        have d3 : W'.cell? ⟨nb + 1 + 1, 0, none⟩ = some (.int .i64 0) := Blk.val hnw.c3 0 _ rfl
        have f1 : W'.frozen? ⟨nb, 0, none⟩ = false := Blk.free hnw.c1 0
        have f2 : W'.frozen? ⟨nb + 1, 0, none⟩ = false := Blk.free hnw.c2 0
        have f3 : W'.frozen? ⟨nb + 1 + 1, 0, none⟩ = false := Blk.free hnw.c3 0
        have hne : cb + 1 ≠ nb + 1 + 1 := by omega
        have hne2 : cb + 1 ≠ nb + 1 := by omega
        have hne3 : cb + 1 ≠ nb := by omega
        have Hnw := Lib.hid hnw
        have Hex := Lib.hid hex
        have HK := Lib.hid hK
        clear hnw hex hK heb
        go_region
        all_goals
          go_wp2_with fail
          have hns := nv_set Hnw.out 0 [] (RE)
          have hK2 := (hns.2.2 0).same _ _ (Nat.zero_le _) HK.out rfl
          have hkp := Kc.of_put (n0 := w.heap.size) (tc := fun _ _ => False) (.deferred none) hK2 rfl (by omega)
          exact postM_mark hK2 (results_nv ⟨hkp.blk hns.1.c1 (fun h => h), hkp.blk hns.1.c2 (fun h => h), hkp.blk hns.1.c3 (fun h => h)⟩ rfl rfl rfl) ⟨by rw [HR3.out]; try rfl, Ext.trans' (hns.2.1 w Hex.out hwn) hkp.below⟩
    case stop =>
      rintro D c pre W hD hS ⟨rfl, hex, pre', x, rfl, hno, hlt, hnw⟩ hK
      have HR3 : Hid (nextOf m h d a = (x, 0)) := Lib.hid (by rw [HR.out, find_pre hno hlt hS])
      have hkp := Kc.of_put (n0 := w.heap.size) (tc := fun _ _ => False) (.deferred none) hK rfl (by omega)
      have HKP := Lib.hid hkp
      have HN := Lib.hid hnw
      have HX := Lib.hid hex
      have HK := Lib.hid hK
      clear hkp hnw hex hK hS hno
      dsimp only
      go_wp2_with fail
      refine postM_mark HK.out (results_nv ⟨HKP.out.blk HN.out.c1 (fun h => h), HKP.out.blk HN.out.c2 (fun h => h), HKP.out.blk HN.out.c3 (fun h => h)⟩ rfl rfl rfl) ⟨by rw [HR3.out], Ext.trans' HX.out HKP.out.below⟩
  · have Hop2 : Hid (∀ w, Calls Tryd.prog 35 #[.iface 29 (.slice p n cap), .agg #[.int .i64 h.applied, .int .i64 h.count, .int .i64 h.fin, .int .i64 h.root, .int .i64 h.height, .int .i64 h.splits, .int .i64 h.areas], .agg #[.int .i64 d.id, .int .i64 d.org, .int .i64 d.format, .int .i64 d.length, .int .i64 d.block, .int .i64 d.keyAt, .int .i64 d.keyLength, .int .i64 d.interval, .int .i64 d.area, .int .i64 d.freeInterval, .int .i64 d.freeArea, .int .i64 d.base, .int .i64 d.altAt, .int .i64 d.altLength, .bool d.unique, .int .i64 d.cls, .string ⟨d.volume.toArray⟩, .string ⟨d.owner.toArray⟩, .int .i64 d.created, .int .i64 d.expires, .bool d.archived]] w fun e w' => e = .returned (.tuple #[.agg clZero, .int .i64 (doorOf h d 1)]) ∧ Ext w w') :=
      Lib.hid (fun w => (Hop.out w).mono fun e w' ⟨he, h⟩ => by
        rcases h with ⟨h, _⟩ | ⟨_, h⟩
        · exact absurd h hdo
        · exact ⟨h, he⟩)
    clear Hop
    have HR : Hid (nextOf m h d a = ((0, []), doorOf h d 1)) := Lib.hid (by unfold nextOf; rw [if_pos hdo])
    have hdI : (doorOf h d 1 != 0) = true := by simpa using hdo
    generalize doorOf h d 1 = er at *
    clear hdo
    go_upto_region 3 with (first | (refine wpList_ds rfl (.tmp 6) rfl _ rfl d hb2 ?_) | (refine wpList_hd rfl (.tmp 5) rfl _ rfl h hb1 ?_) | (go_at_call 35; refine (Hop2.out _).mono ?_; rintro e w1 ⟨rfl, he1⟩) | (refine wpList_put rfl 77 (.tmp 11) (.tmp 19) rfl _ clZero rfl rfl _ _ (Blk.alloc (Blk.new w1 _) _) clSize rfl clZero_one ?_; intro w2 hcl hc2; have hb9 := hc2.blk (Blk.new1 (w1.alloc (.cells clZero 77)) (.cells #[.int .i64 0] 31) (w1.heap.size + 1) (by simp)) (by omega); have c9 := (show w2.cell? ⟨w1.heap.size + 1, 0, none⟩ = some (.int .i64 0) from Blk.val hb9 0 _ rfl); have f9 := (show w2.frozen? ⟨w1.heap.size + 1, 0, none⟩ = false from Blk.free hb9 0)))
    have hx2 : Ext w1 w2 := hc2.ext ((Ext.alloc _ _).trans (Ext.alloc _ _)) (Nat.le_refl _)
    have hc3 := Chg.setCell (w := w2) (g := w1.heap.size + 1) (i := 0) (v := .int .i64 er)
    have hx3 : Ext w1 (w2.setCell ⟨w1.heap.size + 1, 0, none⟩ (.int .i64 er)) := hc3.ext hx2 (by omega)
    refine wp_name (fun w3 => Ext w0 w3 ∧ Blk w3 (w1.heap.size + 1) (.cells #[.int .i64 er] 31)) ⟨he1.trans hx3, Blk.setCell hb9⟩ ?_
    have hcb0 := he1.size
    generalize w1.heap.size = cb at *
    clear hc3 hx2 hx3 hb9 hc2 hcl he1 c9 f9
    rintro w3 ⟨he3, heb⟩
    have hnv3 := hnv.ext he3
    have hzn := Blk.lt hnv.c3
    have hne : cb + 1 ≠ nb + 1 + 1 := by have := Blk.lt hnv.c3; omega
    have hne2 : cb + 1 ≠ nb + 1 := by omega
    have hne3 : cb + 1 ≠ nb := by omega
    have c9 : w3.cell? ⟨cb + 1, 0, none⟩ = some (.int .i64 er) := Blk.val heb 0 _ rfl
    have d1 : w3.cell? ⟨nb, 0, none⟩ = some (.int .i64 0) := Blk.val hnv3.c1 0 _ rfl
    have d2 : w3.cell? ⟨nb + 1, 0, none⟩ = some (.string ⟨#[]⟩) := Blk.val hnv3.c2 0 _ rfl
    have d3 : w3.cell? ⟨nb + 1 + 1, 0, none⟩ = some (.int .i64 0) := Blk.val hnv3.c3 0 _ rfl
    have f1 : w3.frozen? ⟨nb, 0, none⟩ = false := Blk.free hnv3.c1 0
    have f2 : w3.frozen? ⟨nb + 1, 0, none⟩ = false := Blk.free hnv3.c2 0
    have f3 : w3.frozen? ⟨nb + 1 + 1, 0, none⟩ = false := Blk.free hnv3.c3 0
    have Hnv3 := Lib.hid hnv3
    have HE3 := Lib.hid (he0.trans he3)
    clear hnv3 hnv he0 he3 heb hzn hb1 hb2 hb3
    go_region
    all_goals
      go_wp2_with fail
      exact postM_ret (results_nv (nv_set Hnv3.out 0 [] er).1 rfl rfl rfl) ⟨by rw [HR.out], (nv_set Hnv3.out 0 [] er).2.1 w HE3.out hwn⟩
end Go.Proofs.YtkhlglkipeoalaaDoor
/- The reference's Next. -/
namespace Dsd
theorem chunkA_drop (base : Int) (L : Recs) (k : Nat) (h : k < L.length) : chunkA (base + (sumLen (L.take k) : Int)) (L.drop k) = (base + (sumLen (L.take k) : Int), L.getD k []) :: chunkA (base + (sumLen (L.take (k + 1)) : Int)) (L.drop (k + 1)) := by
  rw [List.drop_eq_getElem_cons h, sumLen_take1 L k h]
  have e : L.getD k [] = L[k] := by simp [List.getD, h]
  rw [e, chunkA]
  congr 2
  push_cast
  omega
end Dsd
namespace Go.Proofs.YtkhlglkipeoalaaDoor
open Go.RowKit Dsd

set_option maxRecDepth 100000 in
set_option maxHeartbeats 4000000 in
theorem Next_ref (p : Option Addr) (n cap : Nat) (m : Recs) (h : Hd) (d : DS) (a : Int) (hwr : ∀ s : Int, 0 < s → IntKind.i64.wrap (a.tdiv s) = a.tdiv s) (w : World) (hs : Strs w p m) (hn : m.length = n) (hm : Small m) :
    Calls Tryd.prog 32 #[.slice p n cap, .agg #[.int .i64 h.applied, .int .i64 h.count, .int .i64 h.fin, .int .i64 h.root, .int .i64 h.height, .int .i64 h.splits, .int .i64 h.areas], .agg #[.int .i64 d.id, .int .i64 d.org, .int .i64 d.format, .int .i64 d.length, .int .i64 d.block, .int .i64 d.keyAt, .int .i64 d.keyLength, .int .i64 d.interval, .int .i64 d.area, .int .i64 d.freeInterval, .int .i64 d.freeArea, .int .i64 d.base, .int .i64 d.altAt, .int .i64 d.altLength, .bool d.unique, .int .i64 d.cls, .string ⟨d.volume.toArray⟩, .string ⟨d.owner.toArray⟩, .int .i64 d.created, .int .i64 d.expires, .bool d.archived], .int .i64 a] w (NextOut (nextOf m h d a) w) := by
  have Hs := Lib.hid hs
  have Hn := Lib.hid hn
  have Hm := Lib.hid hm
  have HDo := Lib.hid (Door_any h d 1)
  clear hs hn hm
  by_cases hdo : doorOf h d 1 = 0
  · rw [hdo] at HDo
    obtain ⟨hva, hpl, hor⟩ := door_zero hdo
    have v3 := (valid_spec hva).2.2.1
    have hiv : 128 ≤ d.interval ∧ d.interval ≤ 512 := by rcases isSize_spec v3 with h | h | h <;> omega
    obtain ⟨hi0, hi1⟩ := hiv
    have p4 := (plain_spec hpl).2.2.2
    have HR : Hid (nextOf m h d a = _) := Lib.hid (by unfold nextOf; rw [if_neg (by simp [hdo])])
    have hq := hwr d.interval (by omega)
    have hs0 : ¬ d.interval = 0 := by omega
    have hsp := startP_pos (s := d.interval) (a := a) (by omega)
    clear hva hpl hor v3 hdo hwr
    go_enter Tryd.func32, Tryd.ntmps32
    go_upto_region 1 with (fail)
    refine wp_name (fun w0 => Ext w w0 ∧ HdAt w0 w.heap.size h ∧ DsAt w0 (w.heap.size + 1) d) (hd_ds w h d) ?_
    rintro w0 ⟨he0, hb1, hb2⟩
    go_upto_region 4 with (first | (refine wpList_ds rfl (.tmp 6) rfl _ rfl d hb2 ?_) | (refine wpList_hd rfl (.tmp 5) rfl _ rfl h hb1 ?_) | (go_at_call 40; refine (HDo.out _).mono ?_; rintro e w1 ⟨rfl, he1⟩))
    refine wp_name (fun wA => Ext w wA ∧ HdAt wA w.heap.size h ∧ DsAt wA (w.heap.size + 1) d) ⟨he0.trans he1, hb1.ext he1, hb2.ext he1⟩ ?_
    clear he0 he1 hb1 hb2
    rintro wA ⟨heA, hb1, hb2⟩
    have c7 : wA.cell? ⟨w.heap.size + 1, 7, none⟩ = some (.int .i64 d.interval) := Blk.val hb2 7 _ rfl
    have HE := Lib.hid heA
    have Hb1 := Lib.hid hb1
    have Hb2 := Lib.hid hb2
    have HsA := Lib.hid (Hs.out.ext heA)
    have hb1l := Blk.lt hb1
    have hb2l := Blk.lt hb2
    clear heA hb1 hb2
    by_cases hge : d.interval ≤ a
    all_goals first
      | (have hgeI : decide (d.interval ≤ a) = true := decide_eq_true hge
         have HST := Lib.hid (show startP d.interval a = startP d.interval a from rfl)
         have hst : a.tdiv d.interval = startP d.interval a := by unfold startP; rw [if_pos hge, Int.tdiv_eq_ediv_of_nonneg (by omega)]
         rw [hst] at hq
         have ht2 : wrap64 (a.tdiv d.interval) = startP d.interval a := by rw [← IntWalk.i64_left, hst, hq]
         clear hst hq
         go_wp2_with fail
         clear ht2)
      | (have hgeI : decide (d.interval ≤ a) = false := decide_eq_false hge
         have HST := Lib.hid (show (1 : Int) = startP d.interval a by unfold startP; rw [if_neg hge])
         go_wp2_with fail
         clear hq)
    all_goals
      go_loopw [12] (fun i wr => ∃ pg : Int, i = .int .i64 pg ∧ 1 ≤ pg ∧ Ext wA wr ∧ (scanOf m d.interval h.fin (startP d.interval a)).1.find? (fun x => decide (a < x.1)) = (scanOf m d.interval h.fin pg).1.find? (fun x => decide (a < x.1)) ∧ (scanOf m d.interval h.fin (startP d.interval a)).2 = (scanOf m d.interval h.fin pg).2) (fun i _ => (h.fin + 1 - intOf i).toNat)
      case atStart => first
        | exact ⟨startP d.interval a, rfl, hsp, Ext.refl _, rfl, rfl⟩
        | exact ⟨1, rfl, by omega, Ext.refl _, by rw [← HST.out], by rw [← HST.out]⟩
      case round =>
        obtain ⟨pg, rfl, hp1, hex, hfst, hsnd⟩ := hrel
        have c2 : wr.cell? ⟨w.heap.size, 2, none⟩ = some (.int .i64 h.fin) := Blk.val (Hb1.out.ext hex) 2 _ rfl
        have hds := Hb2.out.ext hex
        have HL := Lib.hid (Load_ref p cap n m d pg wr (HsA.out.ext hex) Hn.out Hm.out)
        have Hex := Lib.hid hex
        have Hfst := Lib.hid hfst
        have Hsnd := Lib.hid hsnd
        clear hex hfst hsnd
        by_cases hle : pg ≤ h.fin
        · have hleI : decide (pg ≤ h.fin) = true := decide_eq_true hle
          have hpm : 0 ≤ pg * d.interval ∧ pg * d.interval ≤ 8589934592 := by
            have h1 := Int.mul_le_mul (show pg ≤ 16777216 by omega) hi1 (by omega) (by omega)
            have h2 := Int.mul_nonneg (show (0 : Int) ≤ pg by omega) (show 0 ≤ d.interval by omega)
            omega
          obtain ⟨hpm0, hpm1⟩ := hpm
          by_cases hld : (loadOf m d.interval pg).2 = 0
          · have HL2 : Hid (Calls Tryd.prog 41 #[.slice p n cap, .agg #[.int .i64 d.id, .int .i64 d.org, .int .i64 d.format, .int .i64 d.length, .int .i64 d.block, .int .i64 d.keyAt, .int .i64 d.keyLength, .int .i64 d.interval, .int .i64 d.area, .int .i64 d.freeInterval, .int .i64 d.freeArea, .int .i64 d.base, .int .i64 d.altAt, .int .i64 d.altLength, .bool d.unique, .int .i64 d.cls, .string ⟨d.volume.toArray⟩, .string ⟨d.owner.toArray⟩, .int .i64 d.created, .int .i64 d.expires, .bool d.archived], .int .i64 pg] wr fun e w2 => ∃ q2 c2, e = .returned (.tuple #[.slice q2 (loadOf m d.interval pg).1.length c2, .int .i64 0]) ∧ Ext wr w2 ∧ Small (loadOf m d.interval pg).1 ∧ w2.ownsRow wr.heap.size 9 1 (.slice q2 (loadOf m d.interval pg).1.length c2) (loadOf m d.interval pg).1.length ((loadOf m d.interval pg).1.map fun s => .string ⟨s.toArray⟩)) :=
              Lib.hid (HL.out.mono fun e w2 ⟨he2, h⟩ => by
                rcases h with ⟨h1, _⟩ | ⟨_, q2, c2, h2, h3, h4⟩
                · exact absurd hld h1
                · exact ⟨q2, c2, h2, he2, h3, h4⟩)
            have HSc := Lib.hid (scan_ok hle hld)
            obtain ⟨hsum, hlen⟩ := load_sum hld
            have HF1 := Lib.hid (Hfst.out)
            have HS1 := Lib.hid (Hsnd.out)
            rw [HSc.out] at HF1 HS1
            generalize (loadOf m d.interval pg).1 = L at *
            clear hld HL
            go_upto_region 12 with (first | (refine wpList_ds rfl (.tmp 6) rfl _ rfl d hds ?_) | (go_at_call 41; refine HL2.out.mono ?_; rintro e w2 ⟨q2, c2, rfl, he2, hsm, hown2⟩; have c3 := (show w2.cell? ⟨w.heap.size + 1, 7, none⟩ = some (.int .i64 d.interval) from Blk.val (he2.blk _ _ hds) 7 _ rfl)))
            obtain ⟨q2', c2', hqe, hsq, _, _, _⟩ := own_strs_p hown2
            cases hqe
            have HRel : Hid (Ext wA w2) := Lib.hid (Hex.out.trans he2)
            have Hsq := Lib.hid hsq
            have Hsm := Lib.hid hsm
            have hll : L.length ≤ 1000000 := hsm.1
            clear hown2 hsm he2 hds hsq
            obtain ⟨wl, rfl⟩ : ∃ wl : World, wl = w2 := ⟨_, rfl⟩
            go_wp2_with fail
            go_loopw [15, 16] (fun at_ i wr => ∃ k : Nat, k ≤ L.length ∧ i = .int .i64 k ∧ at_ = .int .i64 (pg * d.interval + (sumLen (L.take k) : Int)) ∧ Ext wl wr ∧ (scanOf m d.interval h.fin (startP d.interval a)).1.find? (fun x => decide (a < x.1)) = (chunkA (pg * d.interval + (sumLen (L.take k) : Int)) (L.drop k) ++ (scanOf m d.interval h.fin (pg + 1)).1).find? (fun x => decide (a < x.1))) (fun _ i _ => L.length - (intOf i).toNat)
            case atStart => exact ⟨0, Nat.zero_le _, rfl, by simp [sumLen], Ext.refl _, by simpa [sumLen] using HF1.out⟩
            case round =>
              obtain ⟨k, hk, rfl, rfl, hex, hfk⟩ := hrel
              have hst := sumLen_takeLe L k
              by_cases hlt : k < L.length
              · have hltI : (k : Int) < L.length := by omega
                obtain ⟨b, off, rfl, hbb, hc⟩ := Hsq.out.at k hlt
                have hck := (hex.cell b _ hbb).trans (hc k hlt)
                have hbr := Nat.lt_of_lt_of_le hbb hex.size
                rw [chunkA_drop _ _ _ hlt] at hfk
                have HU := Lib.hid (sumLen_take1 L k hlt)
                have hsl := Hsm.out.at k
                generalize L.getD k [] = s at *
                have hst2 := sumLen_takeLe L (k + 1)
                rw [HU.out] at hst2
                have Hfk := Lib.hid hfk
                generalize sumLen (L.take k) = sk at *
                generalize hat : pg * d.interval + (sk : Int) = at_ at *
                have hat0 : 0 ≤ at_ ∧ at_ ≤ 8589935104 := by omega
                obtain ⟨ha0, ha1⟩ := hat0
                have Hhat := Lib.hid hat
                have Hexk := Lib.hid hex
                clear hc hex hat hfk
                by_cases hgt : a < at_
                · have hgtI : decide (a < at_) = true := decide_eq_true hgt
                  have HR3 : Hid (nextOf m h d a = ((at_, s), 0)) := Lib.hid (by rw [HR.out, Hfk.out]; simp [hgt])
                  go_wp2_with fail
                  go_quiet (fail)
                  go_wp2_with fail
                  go_ret3
                  show NextOut _ _ (.returned (.tuple #[.int .i64 at_, .string ⟨s.toArray⟩, .int .i64 0])) _
                  exact ⟨by rw [HR3.out], ((HE.out.trans HRel.out).trans Hexk.out).trans (Ext.drewN _ nq)⟩
                · have hgtI : decide (a < at_) = false := decide_eq_false hgt
                  go_wp2_with fail
                  go_roundw
                  case rel => exact ⟨k + 1, by omega, by go_num, by rw [HU.out, ← Hhat.out]; go_num, Hexk.out, by rw [Hfk.out]; simp [List.find?_cons, hgt]⟩
                  case measure => simp [intOf]; omega
              · have hltI : decide ((k : Int) < L.length) = false := decide_eq_false (by omega)
                obtain rfl : k = L.length := by omega
                rw [List.drop_length] at hfk
                have Hfk := Lib.hid hfk
                clear hfk
                go_wp2_with fail
                refine ⟨⟨pg + 1, by go_num, by omega, (HRel.out.trans hex), by rw [Hfk.out]; simp [chunkA], HS1.out⟩, ?_⟩
                simp [intOf]
                omega
          · have HL2 : Hid (Calls Tryd.prog 41 #[.slice p n cap, .agg #[.int .i64 d.id, .int .i64 d.org, .int .i64 d.format, .int .i64 d.length, .int .i64 d.block, .int .i64 d.keyAt, .int .i64 d.keyLength, .int .i64 d.interval, .int .i64 d.area, .int .i64 d.freeInterval, .int .i64 d.freeArea, .int .i64 d.base, .int .i64 d.altAt, .int .i64 d.altLength, .bool d.unique, .int .i64 d.cls, .string ⟨d.volume.toArray⟩, .string ⟨d.owner.toArray⟩, .int .i64 d.created, .int .i64 d.expires, .bool d.archived], .int .i64 pg] wr fun e w2 => e = .returned (.tuple #[.slice none 0 0, .int .i64 (loadOf m d.interval pg).2]) ∧ Ext wr w2) :=
              Lib.hid (HL.out.mono fun e w2 ⟨he2, h⟩ => by
                rcases h with ⟨_, h1⟩ | ⟨h1, _⟩
                · exact ⟨h1, he2⟩
                · exact absurd h1 hld)
            have HSc := Lib.hid (scan_bad hle hld)
            have hldI : ((loadOf m d.interval pg).2 != 0) = true := by simpa using hld
            have HR3 : Hid (nextOf m h d a = ((0, []), (loadOf m d.interval pg).2)) := Lib.hid (by rw [HR.out, Hfst.out, Hsnd.out, HSc.out]; simp [hld])
            generalize (loadOf m d.interval pg).2 = er at *
            clear hld HL
            go_wp2_with (first | (refine wpList_ds rfl (.tmp 6) rfl _ rfl d hds ?_) | (go_at_call 41; refine HL2.out.mono ?_; rintro e w2 ⟨rfl, he2⟩))
            go_ret3
            show NextOut _ _ (.returned (.tuple #[.int .i64 0, .string ⟨#[]⟩, .int .i64 er])) _
            exact ⟨by rw [HR3.out], HE.out.trans (Hex.out.trans he2)⟩
        · have hleI : decide (pg ≤ h.fin) = false := decide_eq_false hle
          have HR3 : Hid (nextOf m h d a = ((0, []), 6)) := Lib.hid (by rw [HR.out, Hfst.out, Hsnd.out, scan_end (by omega)]; simp)
          go_wp2_with fail
          go_ret3
          show NextOut _ _ (.returned (.tuple #[.int .i64 0, .string ⟨#[]⟩, .int .i64 6])) _
          exact ⟨by rw [HR3.out], HE.out.trans Hex.out⟩
  · have HR : Hid (nextOf m h d a = ((0, []), doorOf h d 1)) := Lib.hid (by unfold nextOf; rw [if_pos hdo])
    have hdI : (doorOf h d 1 != 0) = true := by simpa using hdo
    generalize doorOf h d 1 = er at *
    clear hdo
    go_enter Tryd.func32, Tryd.ntmps32
    go_upto_region 1 with (fail)
    refine wp_name (fun w0 => Ext w w0 ∧ HdAt w0 w.heap.size h ∧ DsAt w0 (w.heap.size + 1) d) (hd_ds w h d) ?_
    rintro w0 ⟨he0, hb1, hb2⟩
    go_wp2_with (first | (refine wpList_ds rfl (.tmp 6) rfl _ rfl d hb2 ?_) | (refine wpList_hd rfl (.tmp 5) rfl _ rfl h hb1 ?_) | (go_at_call 40; refine (HDo.out _).mono ?_; rintro e w1 ⟨rfl, he1⟩))
    go_ret3
    show NextOut _ _ (.returned (.tuple #[.int .i64 0, .string ⟨#[]⟩, .int .i64 er])) _
    exact ⟨by rw [HR.out], he0.trans he1⟩
end Go.Proofs.YtkhlglkipeoalaaDoor
