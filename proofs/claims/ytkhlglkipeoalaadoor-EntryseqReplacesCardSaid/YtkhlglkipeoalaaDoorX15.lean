/- The walk of the reference's find: the ways that find nothing. -/
import Derived.Test.YtkhlglkipeoalaaDoorXD
import Derived.Test.YtkhlglkipeoalaaDoorMono
set_option linter.unusedSimpArgs false
set_option linter.unusedVariables false
namespace Go.Proofs.YtkhlglkipeoalaaDoor
open Go.RowKit Dsd

/-- A row of one's own, behind a slice. -/
def RowF (E : TypeId) (B n : Nat) (xs : List Value) : Fact := fun x w => ∃ q c, x = .slice q n c ∧ w.ownsRow B E 1 (.slice q n c) n xs
theorem RowF.stable (E : TypeId) (B n : Nat) (xs : List Value) : (RowF E B n xs).stable := fun _ _ _ he ⟨q, c, h1, h2⟩ => ⟨q, c, h1, own_ext h2 he⟩
/-- A pair of something of which f is true, and a value. -/
def PairF (f : Fact) (v : Value) : Fact := fun x w => ∃ y, x = .tuple #[y, v] ∧ f y w
theorem PairF.stable {f : Fact} (hf : f.stable) (v : Value) : (PairF f v).stable := fun _ _ _ he ⟨y, h1, h2⟩ => ⟨y, h1, hf _ _ _ he h2⟩

theorem le_sumLen (L : List (List UInt8)) : ∀ s ∈ L, s.length ≤ sumLen L := by
  induction L with
  | nil => intro s h; simp at h
  | cons x L ih =>
    intro s h
    rw [sumLen_cons]
    rw [List.mem_cons] at h
    rcases h with rfl | h
    · omega
    · have := ih s h; omega
theorem loadOf_small (m : List (List UInt8)) (size page : Int) : Small (loadOf m size page).1 ∧ sumLen (loadOf m size page).1 ≤ 512 := by
  by_cases h : (loadOf m size page).2 = 0
  · have hl := loadOf_len m size page
    obtain ⟨_, he, _⟩ := loadOf_ok h
    obtain ⟨h1, h2, h3⟩ := encErr_zero he.1
    have h5 : sumLen (loadOf m size page).1 ≤ sizeL (loadOf m size page).1 := by unfold sizeL; omega
    have h6 : sumLen (loadOf m size page).1 ≤ 512 := by rcases isSize_spec h1 with h | h | h <;> omega
    exact ⟨⟨by omega, fun s hs => by have := le_sumLen _ s hs; omega⟩, h6⟩
  · rw [loadOf_bad h]; exact ⟨⟨by simp, by simp⟩, by simp [sumLen]⟩
set_option maxRecDepth 100000 in
theorem find_ref_door (p : Option Addr) (n cap : Nat) (h : Hd) (d : DS) (a : Int) (w : World) (hd : doorOf h d 1 ≠ 0) :
    Calls Tryd.prog 48 #[.slice p n cap, .agg #[.int .i64 h.applied, .int .i64 h.count, .int .i64 h.fin, .int .i64 h.root, .int .i64 h.height, .int .i64 h.splits, .int .i64 h.areas], .agg #[.int .i64 d.id, .int .i64 d.org, .int .i64 d.format, .int .i64 d.length, .int .i64 d.block, .int .i64 d.keyAt, .int .i64 d.keyLength, .int .i64 d.interval, .int .i64 d.area, .int .i64 d.freeInterval, .int .i64 d.freeArea, .int .i64 d.base, .int .i64 d.altAt, .int .i64 d.altLength, .bool d.unique, .int .i64 d.cls, .string ⟨d.volume.toArray⟩, .string ⟨d.owner.toArray⟩, .int .i64 d.created, .int .i64 d.expires, .bool d.archived], .int .i64 a] w fun e w' => e = .returned (.tuple #[.slice none 0 0, .int .i64 0, .int .i64 (doorOf h d 1)]) ∧ Ext w w' := by
  have Hdo := Lib.hid (Door_any h d 1)
  have hdI : (doorOf h d 1 != 0) = true := by simpa using hd
  generalize doorOf h d 1 = c at *
  clear hd
  go_enter Tryd.func48, Tryd.ntmps48
  go_upto_region 1 with (fail)
  refine wp_name (fun w0 => Ext w w0 ∧ HdAt w0 w.heap.size h ∧ DsAt w0 (w.heap.size + 1) d) (hd_ds w h d) ?_
  rintro w0 ⟨he0, hb1, hb2⟩
  go_wp2_with (first | (refine wpList_ds rfl (.tmp 6) rfl _ rfl d hb2 ?_) | (refine wpList_hd rfl (.tmp 5) rfl _ rfl h hb1 ?_) | (go_at_call 40; refine (Hdo.out _).mono ?_; rintro e w1 ⟨rfl, he1⟩))
  go_ret3
  exact ⟨rfl, he0.trans he1⟩

set_option maxRecDepth 100000 in
theorem find_ref_out (p : Option Addr) (n cap : Nat) (h : Hd) (d : DS) (a : Int) (w : World) (hd : doorOf h d 1 = 0) (ha : a < d.interval) :
    Calls Tryd.prog 48 #[.slice p n cap, .agg #[.int .i64 h.applied, .int .i64 h.count, .int .i64 h.fin, .int .i64 h.root, .int .i64 h.height, .int .i64 h.splits, .int .i64 h.areas], .agg #[.int .i64 d.id, .int .i64 d.org, .int .i64 d.format, .int .i64 d.length, .int .i64 d.block, .int .i64 d.keyAt, .int .i64 d.keyLength, .int .i64 d.interval, .int .i64 d.area, .int .i64 d.freeInterval, .int .i64 d.freeArea, .int .i64 d.base, .int .i64 d.altAt, .int .i64 d.altLength, .bool d.unique, .int .i64 d.cls, .string ⟨d.volume.toArray⟩, .string ⟨d.owner.toArray⟩, .int .i64 d.created, .int .i64 d.expires, .bool d.archived], .int .i64 a] w fun e w' => e = .returned (.tuple #[.slice none 0 0, .int .i64 0, .int .i64 6]) ∧ Ext w w' := by
  have hdo := Door_any h d 1
  rw [hd] at hdo
  have Hdo := Lib.hid hdo
  clear hd hdo
  go_enter Tryd.func48, Tryd.ntmps48
  go_upto_region 1 with (fail)
  refine wp_name (fun w0 => Ext w w0 ∧ HdAt w0 w.heap.size h ∧ DsAt w0 (w.heap.size + 1) d) (hd_ds w h d) ?_
  rintro w0 ⟨he0, hb1, hb2⟩
  go_wp2_with (first | (refine wpList_ds rfl (.tmp 6) rfl _ rfl d hb2 ?_) | (refine wpList_hd rfl (.tmp 5) rfl _ rfl h hb1 ?_) | (go_at_call 40; refine (Hdo.out _).mono ?_; rintro e w1 ⟨rfl, he1⟩))
  have c7 := Blk.val (hb2.ext he1) 7 _ rfl
  have hal : decide (a < d.interval) = true := by simpa using ha
  go_quiet (fail)
  go_wp2
  go_ret3
  exact ⟨rfl, (he0.trans he1).trans (Ext.drewN _ _)⟩

set_option maxRecDepth 100000 in
set_option maxHeartbeats 1000000 in
theorem find_ref_main (p : Option Addr) (n cap : Nat) (m : List (List UInt8)) (h : Hd) (d : DS) (a : Int) (hwr : ∀ s : Int, 0 < s → IntKind.i64.wrap (a.tdiv s) = a.tdiv s) (w : World) (hs : Strs w p m) (hn : m.length = n) (hm : Small m) (hd : doorOf h d 1 = 0) (ha : ¬ a < d.interval) :
    Calls Tryd.prog 48 #[.slice p n cap, .agg #[.int .i64 h.applied, .int .i64 h.count, .int .i64 h.fin, .int .i64 h.root, .int .i64 h.height, .int .i64 h.splits, .int .i64 h.areas], .agg #[.int .i64 d.id, .int .i64 d.org, .int .i64 d.format, .int .i64 d.length, .int .i64 d.block, .int .i64 d.keyAt, .int .i64 d.keyLength, .int .i64 d.interval, .int .i64 d.area, .int .i64 d.freeInterval, .int .i64 d.freeArea, .int .i64 d.base, .int .i64 d.altAt, .int .i64 d.altLength, .bool d.unique, .int .i64 d.cls, .string ⟨d.volume.toArray⟩, .string ⟨d.owner.toArray⟩, .int .i64 d.created, .int .i64 d.expires, .bool d.archived], .int .i64 a] w (FindOut m d.interval h.fin a w) := by
  have Hs := Lib.hid hs
  obtain ⟨hva, hpl, hor⟩ := door_zero hd
  have hz := (valid_spec hva).2.2.1
  have hf := (plain_spec hpl).2.2.2
  have hsz : 128 ≤ d.interval ∧ d.interval ≤ 512 := by rcases isSize_spec hz with h | h | h <;> omega
  obtain ⟨hs1, hs2⟩ := hsz
  have hs0 : ¬ d.interval = 0 := by omega
  have hw := hwr d.interval (by omega)
  have hdo := Door_any h d 1
  rw [hd] at hdo
  have Hdo := Lib.hid hdo
  have hq : a.tdiv d.interval = a / d.interval := Int.tdiv_eq_ediv_of_nonneg (by omega)
  have hr : a.tmod d.interval = a % d.interval := Int.tmod_eq_emod_of_nonneg (by omega)
  rw [hq] at hw
  have ha' : decide (a < d.interval) = false := by simpa using ha
  clear hs hz hwr hd hdo hva hpl hor
  by_cases hp : h.fin < a / d.interval
  · have HR := Lib.hid (findOf_out (m := m) (size := d.interval) (fin := h.fin) (a := a) (.inr hp))
    generalize a / d.interval = pg at *
    go_enter Tryd.func48, Tryd.ntmps48
    go_upto_region 1 with (fail)
    refine wp_name (fun w0 => Ext w w0 ∧ HdAt w0 w.heap.size h ∧ DsAt w0 (w.heap.size + 1) d) (hd_ds w h d) ?_
    rintro w0 ⟨he0, hb1, hb2⟩
    go_wp2_with (first | (refine wpList_ds rfl (.tmp 6) rfl _ rfl d hb2 ?_) | (refine wpList_hd rfl (.tmp 5) rfl _ rfl h hb1 ?_) | (go_at_call 40; refine (Hdo.out _).mono ?_; rintro e w1 ⟨rfl, he1⟩))
    have c7 := Blk.val (hb2.ext he1) 7 _ rfl
    have c2 := Blk.val (hb1.ext he1) 2 _ rfl
    go_quiet (fail)
    go_wp2
    go_ret3
    exact findOut_no ((he0.trans he1).trans (Ext.drewN _ _)) HR.out
  · have hdm : a = d.interval * (a / d.interval) + a % d.interval := (Int.mul_ediv_add_emod a d.interval).symm
    have hm0 := Int.emod_nonneg a hs0
    have hm1 := Int.emod_lt_of_pos a (show 0 < d.interval by omega)
    have HB := Lib.hid (findOf_bad (m := m) (size := d.interval) (fin := h.fin) (a := a) (by omega))
    have HN := Lib.hid (findOf_none (m := m) (size := d.interval) (fin := h.fin) (a := a) (by omega))
    have HS := Lib.hid (fun i => findOf_some (m := m) (size := d.interval) (fin := h.fin) (a := a) (i := i) (by omega))
    have hll := loadOf_len m d.interval (a / d.interval)
    have HL := Lib.hid (fun w hs => Load_ref p cap n m d (a / d.interval) w hs hn hm)
    generalize a / d.interval = pg at *
    obtain ⟨off, ho⟩ := Int.eq_ofNat_of_zero_le hm0
    rw [ho] at HN HS hm1 hr
    rw [Int.toNat_natCast] at HN HS
    have hpgI : decide (h.fin < pg) = false := by simpa using hp
    have hoff : off < 512 := by omega
    clear hm0 hdm ho
    go_enter Tryd.func48, Tryd.ntmps48
    go_upto_region 1 with (fail)
    refine wp_name (fun w0 => Ext w w0 ∧ HdAt w0 w.heap.size h ∧ DsAt w0 (w.heap.size + 1) d) (hd_ds w h d) ?_
    rintro w0 ⟨he0, hb1, hb2⟩
    go_wp2_with (first | (refine wpList_ds rfl (.tmp 6) rfl _ rfl d hb2 ?_) | (refine wpList_hd rfl (.tmp 5) rfl _ rfl h hb1 ?_) | (go_at_call 40; refine (Hdo.out _).mono ?_; rintro e w1 ⟨rfl, he1⟩))
    have hb2 := hb2.ext he1
    have c7 := Blk.val hb2 7 _ rfl
    have c2 := Blk.val (hb1.ext he1) 2 _ rfl
    go_quiet (fail)
    go_wp2_with fail
    refine wp_name (fun w3 => Ext w w3 ∧ DsAt w3 (w.heap.size + 1) d) ⟨(he0.trans he1).trans (Ext.drewN _ nq), hb2.ext (Ext.drewN _ nq)⟩ ?_
    clear c7 c2 hb1 hb2 he1
    rintro w3 ⟨he3, hb3⟩
    have Hs2 := Lib.hid (Hs.out.ext he3)
    have c7 : w3.cell? ⟨w.heap.size + 1, 7, none⟩ = some (.int .i64 d.interval) := Blk.val hb3 7 _ rfl
    have hl7 : w.heap.size + 1 < w3.heap.size := Blk.lt hb3
    have Hb3 := Lib.hid hb3
    have HE3 := Lib.hid he3
    clear hb3 he3
    by_cases hr : (loadOf m d.interval pg).2 = 0
    · have HN2 := Lib.hid (HN.out hr)
      have HS2 := Lib.hid (fun i => HS.out i hr)
      have HL2 : Hid (∀ W, Ext w3 W → Calls Tryd.prog 41 #[.slice p n cap, .agg #[.int .i64 d.id, .int .i64 d.org, .int .i64 d.format, .int .i64 d.length, .int .i64 d.block, .int .i64 d.keyAt, .int .i64 d.keyLength, .int .i64 d.interval, .int .i64 d.area, .int .i64 d.freeInterval, .int .i64 d.freeArea, .int .i64 d.base, .int .i64 d.altAt, .int .i64 d.altLength, .bool d.unique, .int .i64 d.cls, .string ⟨d.volume.toArray⟩, .string ⟨d.owner.toArray⟩, .int .i64 d.created, .int .i64 d.expires, .bool d.archived], .int .i64 pg] W fun e W' => ∃ v, e = .returned v ∧ Ext W W' ∧ PairF (RowF 9 w.heap.size (loadOf m d.interval pg).1.length ((loadOf m d.interval pg).1.map fun s => .string ⟨s.toArray⟩)) (.int .i64 0) v W') := Lib.hid (fun W he => (HL.out W (Hs2.out.ext he)).mono (by
        rintro e W' ⟨he', ⟨hr', _⟩ | ⟨_, q, cq, rfl, _, hown⟩⟩
        · exact absurd hr hr'
        · exact ⟨_, rfl, he', _, rfl, q, cq, rfl, own_le hown ((HE3.out.trans he).size)⟩))
      have hsmL := loadOf_small m d.interval pg
      generalize (loadOf m d.interval pg).1 = L at *
      clear hr
      refine wp_region_mk 200 (Ext.refl _) (by kernel_rfl) (by kernel_rfl) (by kernel_rfl) ?_
      simp only [List.take_succ_cons, List.take_zero, List.take_nil, List.drop_succ_cons, List.drop_zero, List.drop_nil, List.map_cons, List.map_nil]
      repeat (first
        | (refine wpML_det (v := .agg #[.int .i64 d.id, .int .i64 d.org, .int .i64 d.format, .int .i64 d.length, .int .i64 d.block, .int .i64 d.keyAt, .int .i64 d.keyLength, .int .i64 d.interval, .int .i64 d.area, .int .i64 d.freeInterval, .int .i64 d.freeArea, .int .i64 d.base, .int .i64 d.altAt, .int .i64 d.altLength, .bool d.unique, .int .i64 d.cls, .string ⟨d.volume.toArray⟩, .string ⟨d.owner.toArray⟩, .int .i64 d.created, .int .i64 d.expires, .bool d.archived]) rfl ?_ ?_
           · intro a w' he hr K hK
             simp [Reads, Oper.looksAt, Op.operands, factAt, Is] at hr
             exact wp_load_row 23 (.tmp 6) rfl (w.heap.size + 1) (by go_simp) _ _ _ _ (he.blk _ _ Hb3.out) dsDesc rfl dsSize (hK _ (Ext.refl _))
           simp only [setL, List.set_cons_succ, List.set_cons_zero])
        | (refine wpML_move _ _ rfl (by first | exact .inl rfl | exact .inr rfl) rfl (by first | exact Is.stable _ | exact AppF.stable _ | exact WrF.stable _ | exact PtrF.stable _ _ | exact IfcF.stable (Fresh.stable _ _ _) _ | exact PairF.stable (RowF.stable _ _ _ _) _ | exact RowF.stable _ _ _ _ | exact Fresh.stable _ _ _) ?_
           simp only [setL, List.set_cons_succ, List.set_cons_zero, List.getD_cons_succ, List.getD_cons_zero])
        | (refine wpML_moveC _ rfl (by first | exact .inl rfl | exact .inr rfl) ?_
           simp only [setL, List.set_cons_succ, List.set_cons_zero])
        | (apply wpML_det rfl
           · intro a w' he hr K hK
             simp [Reads, Oper.looksAt, Op.operands, Call.operands, factAt, Is] at hr
             have hx := he.cell
             go_simp
             try go_bits
             try (rw [if_neg (by omega)]; go_simp)
             first
               | exact hK _ (Ext.refl _)
           simp only [setL, List.set_cons_succ, List.set_cons_zero])
        | (refine wpML_fact (PairF (RowF 9 w.heap.size L.length (L.map fun s => .string ⟨s.toArray⟩)) (.int .i64 0)) (PairF.stable (RowF.stable _ _ _ _) _) rfl ?_ ?_
           · intro a w' he hr K hK
             simp [Reads, Oper.looksAt, Op.operands, Call.operands, factAt, Is] at hr
             go_simp
             refine (HL2.out _ he).mono ?_
             rintro e w'' ⟨v, rfl, he', hf⟩
             exact hK _ _ he' hf
           simp only [setL, List.set_cons_succ, List.set_cons_zero])
        | (refine wpML_fact (RowF 9 w.heap.size L.length (L.map fun s => .string ⟨s.toArray⟩)) (RowF.stable _ _ _ _) rfl ?_ ?_
           · intro a w' he hr K hK
             obtain ⟨y, hy, q, c, hy2, hown⟩ := hr 35 (by simp [Oper.looksAt, Op.operands])
             go_simp
             exact hK _ _ (Ext.refl _) ⟨q, c, rfl, hown⟩
           simp only [setL, List.set_cons_succ, List.set_cons_zero])
        | (apply wpML_det rfl
           · intro a w' he hr K hK
             simp [Reads, Oper.looksAt, Op.operands, Call.operands, factAt, Fresh] at hr
             obtain ⟨b, hr1, hr2⟩ := hr
             go_simp
             exact hK _ (Ext.refl _)
           simp only [setL, List.set_cons_succ, List.set_cons_zero]))
      intro w2 he2
      repeat (first | with_reducible refine rest_is _ _ _ _ ?_ | (with_reducible refine rest_fact _ _ _ _ ?_; intro _ _) | with_reducible refine rest_end _ _ ?_)
      simp only [List.reverse_cons, List.reverse_nil, List.nil_append, List.cons_append]
      rename_i x12 h12 x35 h35 x42 h42 x43 h43
      obtain ⟨q, cq, rfl, hown⟩ := h12
      clear h35 h42 h43
      have c7 : w2.cell? ⟨w.heap.size + 1, 7, none⟩ = some (.int .i64 d.interval) := Blk.val (he2.blk _ _ Hb3.out) 7 _ rfl
      have hsq : Strs w2 q L := by
        obtain ⟨q', k', he, hq, _⟩ := own_strs2 hown
        simp at he; obtain ⟨rfl, rfl⟩ := he; exact hq
      have Hsq := Lib.hid hsq
      have Hown := Lib.hid hown
      have HX : Hid (idxOf L off = idxFrom (L.drop 0) 0 (sumLen (L.take 0)) off) := Lib.hid rfl
      have HE4 := Lib.hid (HE3.out.trans he2)
      have HsmL := Lib.hid hsmL.1
      have hsum := hsmL.2
      clear hsq hown hsmL
      go_wp2_with fail
      go_loop [14, 15] (fun at' i => ∃ k : Nat, k ≤ L.length ∧ i = .int .i64 k ∧ at' = .int .i64 (sumLen (L.take k) : Int) ∧ idxOf L off = idxFrom (L.drop k) k (sumLen (L.take k)) off) (fun _ i => L.length - (intOf i).toNat)
      case atStart => exact ⟨0, Nat.zero_le _, rfl, by simp [sumLen], HX.out⟩
      case round =>
        obtain ⟨k, hk, rfl, rfl, hix⟩ := hrel
        have Hix := Lib.hid hix
        clear hix
        have hsb : sumLen (L.take k) ≤ 512 := by
          have h1 := sumLen_append (L.take k) (L.drop k)
          rw [List.take_append_drop] at h1
          omega
        by_cases hlt : k < L.length
        · have hltI : (k : Int) < L.length := by omega
          obtain ⟨b, o, rfl, hbb, hc⟩ := Hsq.out.at k hlt
          have hck := hc k hlt
          have HT := Lib.hid (sumLen_take6 L k hlt)
          have HD := Lib.hid (idx_drop L k off hlt)
          have hxl : (L.getD k []).length ≤ 1000000 := HsmL.out.at k
          clear hc
          generalize L.getD k [] = x at *
          by_cases hf2 : sumLen (L.take k) = off
          · have heI : ((sumLen (L.take k) : Int) == (off : Int)) = true := by simp; omega
            have HF : Hid (idxOf L off = some k) := Lib.hid (by rw [Hix.out, HD.out, if_pos hf2])
            clear hf2
            generalize sumLen (L.take k) = S at *
            go_wp2
            go_ret3
            exact findOut_yes HE4.out (HS2.out k HF.out) Hown.out HsmL.out
          · have heI : ((sumLen (L.take k) : Int) == (off : Int)) = false := by simp; omega
            have HF : Hid (idxOf L off = idxFrom (L.drop (k + 1)) (k + 1) (sumLen (L.take (k + 1))) off) := Lib.hid (by rw [Hix.out, HD.out, if_neg hf2])
            clear hf2
            go_wp2
            go_round
            case rel => exact ⟨k + 1, by omega, by go_num, by rw [HT.out]; go_num, HF.out⟩
            case measure => simp [intOf]; omega
        · have hltI : decide ((k : Int) < L.length) = false := by simp; omega
          have HF : Hid (idxOf L off = none) := Lib.hid (by rw [Hix.out, List.drop_eq_nil_of_le (by omega)]; rfl)
          go_wp2
          go_ret3
          exact findOut_no HE4.out (HN2.out HF.out)
    · have HR := Lib.hid (HB.out hr)
      have HL2 : Hid (∀ W, Ext w3 W → Calls Tryd.prog 41 #[.slice p n cap, .agg #[.int .i64 d.id, .int .i64 d.org, .int .i64 d.format, .int .i64 d.length, .int .i64 d.block, .int .i64 d.keyAt, .int .i64 d.keyLength, .int .i64 d.interval, .int .i64 d.area, .int .i64 d.freeInterval, .int .i64 d.freeArea, .int .i64 d.base, .int .i64 d.altAt, .int .i64 d.altLength, .bool d.unique, .int .i64 d.cls, .string ⟨d.volume.toArray⟩, .string ⟨d.owner.toArray⟩, .int .i64 d.created, .int .i64 d.expires, .bool d.archived], .int .i64 pg] W fun e W' => e = .returned (.tuple #[.slice none 0 0, .int .i64 (loadOf m d.interval pg).2]) ∧ Ext W W') := Lib.hid (fun W he => (HL.out W (Hs2.out.ext he)).mono (by
        rintro e W' ⟨he', ⟨_, rfl⟩ | ⟨hr', _⟩⟩
        · exact ⟨rfl, he'⟩
        · exact absurd hr' hr))
      have hrI : ((loadOf m d.interval pg).2 != 0) = true := by simpa using hr
      generalize (loadOf m d.interval pg).2 = x at *
      clear hr
      refine wp_region_mk 200 (Ext.refl _) (by kernel_rfl) (by kernel_rfl) (by kernel_rfl) ?_
      simp only [List.take_succ_cons, List.take_zero, List.take_nil, List.drop_succ_cons, List.drop_zero, List.drop_nil, List.map_cons, List.map_nil]
      repeat (first
        | (refine wpML_det (v := .agg #[.int .i64 d.id, .int .i64 d.org, .int .i64 d.format, .int .i64 d.length, .int .i64 d.block, .int .i64 d.keyAt, .int .i64 d.keyLength, .int .i64 d.interval, .int .i64 d.area, .int .i64 d.freeInterval, .int .i64 d.freeArea, .int .i64 d.base, .int .i64 d.altAt, .int .i64 d.altLength, .bool d.unique, .int .i64 d.cls, .string ⟨d.volume.toArray⟩, .string ⟨d.owner.toArray⟩, .int .i64 d.created, .int .i64 d.expires, .bool d.archived]) rfl ?_ ?_
           · intro a w' he hr K hK
             simp [Reads, Oper.looksAt, Op.operands, factAt, Is] at hr
             exact wp_load_row 23 (.tmp 6) rfl (w.heap.size + 1) (by go_simp) _ _ _ _ (he.blk _ _ Hb3.out) dsDesc rfl dsSize (hK _ (Ext.refl _))
           simp only [setL, List.set_cons_succ, List.set_cons_zero])
        | (refine wpML_move _ _ rfl (by first | exact .inl rfl | exact .inr rfl) rfl (by first | exact Is.stable _ | exact AppF.stable _ | exact WrF.stable _ | exact PtrF.stable _ _ | exact IfcF.stable (Fresh.stable _ _ _) _ | exact PairF.stable (RowF.stable _ _ _ _) _ | exact RowF.stable _ _ _ _ | exact Fresh.stable _ _ _) ?_
           simp only [setL, List.set_cons_succ, List.set_cons_zero, List.getD_cons_succ, List.getD_cons_zero])
        | (refine wpML_moveC _ rfl (by first | exact .inl rfl | exact .inr rfl) ?_
           simp only [setL, List.set_cons_succ, List.set_cons_zero])
        | (apply wpML_det rfl
           · intro a w' he hr K hK
             simp [Reads, Oper.looksAt, Op.operands, Call.operands, factAt, Is] at hr
             have hx := he.cell
             go_simp
             try go_bits
             try (rw [if_neg (by omega)]; go_simp)
             first
               | exact hK _ (Ext.refl _)
               | (refine (HL2.out _ he).mono ?_; rintro e w'' ⟨rfl, he'⟩; exact hK _ he')
           simp only [setL, List.set_cons_succ, List.set_cons_zero])
        | (apply wpML_det rfl
           · intro a w' he hr K hK
             simp [Reads, Oper.looksAt, Op.operands, Call.operands, factAt, Fresh] at hr
             obtain ⟨b, hr1, hr2⟩ := hr
             go_simp
             exact hK _ (Ext.refl _)
           simp only [setL, List.set_cons_succ, List.set_cons_zero]))
      intro w2 he2
      repeat (first | with_reducible refine rest_is _ _ _ _ ?_ | (with_reducible refine rest_fact _ _ _ _ ?_; intro _ _) | with_reducible refine rest_end _ _ ?_)
      simp only [List.reverse_cons, List.reverse_nil, List.nil_append, List.cons_append]
      go_wp2
      go_ret3
      exact findOut_no (HE3.out.trans he2) HR.out

/-- The reference's find, for all inputs. -/
theorem find_ref (p : Option Addr) (n cap : Nat) (m : List (List UInt8)) (h : Hd) (d : DS) (a : Int) (hwr : ∀ s : Int, 0 < s → IntKind.i64.wrap (a.tdiv s) = a.tdiv s) (w : World) (hs : Strs w p m) (hn : m.length = n) (hm : Small m) (hd : doorOf h d 1 = 0) :
    Calls Tryd.prog 48 #[.slice p n cap, .agg #[.int .i64 h.applied, .int .i64 h.count, .int .i64 h.fin, .int .i64 h.root, .int .i64 h.height, .int .i64 h.splits, .int .i64 h.areas], .agg #[.int .i64 d.id, .int .i64 d.org, .int .i64 d.format, .int .i64 d.length, .int .i64 d.block, .int .i64 d.keyAt, .int .i64 d.keyLength, .int .i64 d.interval, .int .i64 d.area, .int .i64 d.freeInterval, .int .i64 d.freeArea, .int .i64 d.base, .int .i64 d.altAt, .int .i64 d.altLength, .bool d.unique, .int .i64 d.cls, .string ⟨d.volume.toArray⟩, .string ⟨d.owner.toArray⟩, .int .i64 d.created, .int .i64 d.expires, .bool d.archived], .int .i64 a] w (FindOut m d.interval h.fin a w) := by
  by_cases ha : a < d.interval
  · exact (find_ref_out p n cap h d a w hd ha).mono fun e w' ⟨h1, h2⟩ => h1 ▸ findOut_no h2 (findOf_out (.inl ha))
  · exact find_ref_main p n cap m h d a hwr w hs hn hm hd ha
end Go.Proofs.YtkhlglkipeoalaaDoor
