/- The walk of the program's find. -/
import Derived.Test.YtkhlglkipeoalaaDoorXC
import Derived.Test.YtkhlglkipeoalaaDoorPB
set_option linter.unusedSimpArgs false
set_option linter.unusedVariables false
namespace Go.Proofs.YtkhlglkipeoalaaDoor
open Go.RowKit Dsd

/-- What find hands back: the records of the page of an address in a row of their own, the index of the record, and the error. -/
def FindOut (m : List (List UInt8)) (size fin a : Int) (w : World) (e : Ending) (w' : World) : Prop :=
  Ext w w' ∧ ∃ q k c, e = .returned (.tuple #[.slice q k c, .int .i64 ((findOf m size fin a).2.1 : Nat), .int .i64 (findOf m size fin a).2.2]) ∧ k = (findOf m size fin a).1.length ∧
    w'.ownsRow w.heap.size 9 1 (.slice q k c) k ((findOf m size fin a).1.map fun s => .string ⟨s.toArray⟩) ∧ Small (findOf m size fin a).1
theorem findOut_no {m : List (List UInt8)} {size fin a : Int} {w w' : World} {c : Int} (he : Ext w w') (hr : findOf m size fin a = ([], 0, c)) : FindOut m size fin a w (.returned (.tuple #[.slice none 0 0, .int .i64 0, .int .i64 c])) w' := by
  refine ⟨he, none, 0, 0, ?_⟩
  rw [hr]
  exact ⟨rfl, rfl, World.ownsRow_nil _ _ _ _, small_nil⟩
theorem findOut_yes {m L : List (List UInt8)} {size fin a : Int} {w w' : World} {q : Option Addr} {c i : Nat} (he : Ext w w') (hr : findOf m size fin a = (L, i, 0)) (ho : w'.ownsRow w.heap.size 9 1 (.slice q L.length c) L.length (L.map fun s => .string ⟨s.toArray⟩)) (hs : Small L) :
    FindOut m size fin a w (.returned (.tuple #[.slice q L.length c, .int .i64 (i : Nat), .int .i64 0])) w' := by
  refine ⟨he, q, L.length, c, ?_⟩
  rw [hr]
  exact ⟨rfl, rfl, ho, hs⟩

set_option maxRecDepth 100000 in
set_option maxHeartbeats 1000000 in
theorem find_any (p : Option Addr) (n cap : Nat) (m : List (List UInt8)) (h : Hd) (d : DS) (a : Int) (hwr : ∀ s : Int, 0 < s → IntKind.i64.wrap (a.tdiv s) = a.tdiv s) (w : World) (hs : Strs w p m) (hn : m.length = n) (hm : Small m) (hz : isSizeB d.interval = true) (hf : h.fin ≤ 16777216) :
    Calls Tryd.prog 47 #[.agg #[.iface 29 (.slice p n cap), .int .i64 h.applied, .int .i64 h.count, .int .i64 h.fin, .int .i64 h.root, .int .i64 h.height, .int .i64 h.splits, .int .i64 h.areas, .int .i64 d.id, .int .i64 d.org, .int .i64 d.format, .int .i64 d.length, .int .i64 d.block, .int .i64 d.keyAt, .int .i64 d.keyLength, .int .i64 d.interval, .int .i64 d.area, .int .i64 d.freeInterval, .int .i64 d.freeArea, .int .i64 d.base, .int .i64 d.altAt, .int .i64 d.altLength, .bool d.unique, .int .i64 d.cls, .string ⟨d.volume.toArray⟩, .string ⟨d.owner.toArray⟩, .int .i64 d.created, .int .i64 d.expires, .bool d.archived], .int .i64 a] w (FindOut m d.interval h.fin a w) := by
  have Hs := Lib.hid hs
  have hsz : 128 ≤ d.interval ∧ d.interval ≤ 512 := by rcases isSize_spec hz with h | h | h <;> omega
  obtain ⟨hs1, hs2⟩ := hsz
  have hs0 : ¬ d.interval = 0 := by omega
  have hw := hwr d.interval (by omega)
  clear hs hz hwr
  by_cases ha : a < d.interval
  · have HR := Lib.hid (findOf_out (m := m) (size := d.interval) (fin := h.fin) (a := a) (.inl ha))
    go_enter Tryd.func47, Tryd.ntmps47
    go_upto_region 1 with (fail)
    refine wp_name (fun w0 => Ext w w0 ∧ Blk w0 w.heap.size (.cells #[.iface 29 (.slice p n cap), .int .i64 h.applied, .int .i64 h.count, .int .i64 h.fin, .int .i64 h.root, .int .i64 h.height, .int .i64 h.splits, .int .i64 h.areas, .int .i64 d.id, .int .i64 d.org, .int .i64 d.format, .int .i64 d.length, .int .i64 d.block, .int .i64 d.keyAt, .int .i64 d.keyLength, .int .i64 d.interval, .int .i64 d.area, .int .i64 d.freeInterval, .int .i64 d.freeArea, .int .i64 d.base, .int .i64 d.altAt, .int .i64 d.altLength, .bool d.unique, .int .i64 d.cls, .string ⟨d.volume.toArray⟩, .string ⟨d.owner.toArray⟩, .int .i64 d.created, .int .i64 d.expires, .bool d.archived] 77)) ⟨Ext.alloc _ _, Blk.new w _⟩ ?_
    rintro w0 ⟨he0, hb⟩
    have c15 := Blk.val hb 15 _ rfl
    have c3 := Blk.val hb 3 _ rfl
    go_wp2
    go_ret3
    exact findOut_no he0 HR.out
  · have hq : a.tdiv d.interval = a / d.interval := Int.tdiv_eq_ediv_of_nonneg (by omega)
    rw [hq] at hw
    have ha' : decide (a < d.interval) = false := by simpa using ha
    by_cases hp : h.fin < a / d.interval
    · have HR := Lib.hid (findOf_out (m := m) (size := d.interval) (fin := h.fin) (a := a) (.inr hp))
      generalize a / d.interval = pg at *
      go_enter Tryd.func47, Tryd.ntmps47
      go_upto_region 1 with (fail)
      refine wp_name (fun w0 => Ext w w0 ∧ Blk w0 w.heap.size (.cells #[.iface 29 (.slice p n cap), .int .i64 h.applied, .int .i64 h.count, .int .i64 h.fin, .int .i64 h.root, .int .i64 h.height, .int .i64 h.splits, .int .i64 h.areas, .int .i64 d.id, .int .i64 d.org, .int .i64 d.format, .int .i64 d.length, .int .i64 d.block, .int .i64 d.keyAt, .int .i64 d.keyLength, .int .i64 d.interval, .int .i64 d.area, .int .i64 d.freeInterval, .int .i64 d.freeArea, .int .i64 d.base, .int .i64 d.altAt, .int .i64 d.altLength, .bool d.unique, .int .i64 d.cls, .string ⟨d.volume.toArray⟩, .string ⟨d.owner.toArray⟩, .int .i64 d.created, .int .i64 d.expires, .bool d.archived] 77)) ⟨Ext.alloc _ _, Blk.new w _⟩ ?_
      rintro w0 ⟨he0, hb⟩
      have c15 := Blk.val hb 15 _ rfl
      have c3 := Blk.val hb 3 _ rfl
      go_wp2
      go_ret3
      exact findOut_no he0 HR.out
    · have hdm : a = d.interval * (a / d.interval) + a % d.interval := (Int.mul_ediv_add_emod a d.interval).symm
      have hm0 := Int.emod_nonneg a hs0
      have hm1 := Int.emod_lt_of_pos a (show 0 < d.interval by omega)
      have hpg1 : 1 ≤ a / d.interval := (Int.le_ediv_iff_mul_le (by omega)).2 (by omega)
      have HB := Lib.hid (findOf_bad (m := m) (size := d.interval) (fin := h.fin) (a := a) (by omega))
      have HN := Lib.hid (findOf_none (m := m) (size := d.interval) (fin := h.fin) (a := a) (by omega))
      have HS := Lib.hid (fun i => findOf_some (m := m) (size := d.interval) (fin := h.fin) (a := a) (i := i) (by omega))
      have hll := loadOf_len m d.interval (a / d.interval)
      have HL := Lib.hid (fun w hs => load_any p cap n m h d (a / d.interval) w hs hn hm)
      generalize a / d.interval = pg at *
      obtain ⟨off, ho⟩ := Int.eq_ofNat_of_zero_le hm0
      rw [ho] at HN HS hdm hm1
      rw [Int.toNat_natCast] at HN HS
      have hpgI : decide (h.fin < pg) = false := by simpa using hp
      have hmu : 0 ≤ pg * d.interval := Int.mul_nonneg (by omega) (by omega)
      have hmu2 : pg * d.interval ≤ 16777216 * 512 := Int.mul_le_mul (by omega) hs2 (by omega) (by omega)
      obtain ⟨M, hM⟩ : ∃ M, pg * d.interval = M := ⟨_, rfl⟩
      rw [Int.mul_comm, hM] at hdm
      rw [hM] at hmu hmu2
      have hMw : IntKind.i64.wrap M = M := IntWalk.i64_in _ (by omega)
      have HDM := Lib.hid hdm
      clear ho hm0 hdm
      go_enter Tryd.func47, Tryd.ntmps47
      go_upto_region 1 with (fail)
      refine wp_name (fun w0 => Ext w w0 ∧ Blk w0 w.heap.size (.cells #[.iface 29 (.slice p n cap), .int .i64 h.applied, .int .i64 h.count, .int .i64 h.fin, .int .i64 h.root, .int .i64 h.height, .int .i64 h.splits, .int .i64 h.areas, .int .i64 d.id, .int .i64 d.org, .int .i64 d.format, .int .i64 d.length, .int .i64 d.block, .int .i64 d.keyAt, .int .i64 d.keyLength, .int .i64 d.interval, .int .i64 d.area, .int .i64 d.freeInterval, .int .i64 d.freeArea, .int .i64 d.base, .int .i64 d.altAt, .int .i64 d.altLength, .bool d.unique, .int .i64 d.cls, .string ⟨d.volume.toArray⟩, .string ⟨d.owner.toArray⟩, .int .i64 d.created, .int .i64 d.expires, .bool d.archived] 77)) ⟨Ext.alloc _ _, Blk.new w _⟩ ?_
      rintro w0 ⟨he0, hb⟩
      have c15 := Blk.val hb 15 _ rfl
      have c3 := Blk.val hb 3 _ rfl
      go_wp2_with (first | (refine wpList_row rfl 77 (.tmp 2) rfl _ rfl _ _ _ hb clDesc rfl clSize ?_))
      refine (HL.out _ (Hs.out.ext he0)).mono ?_
      rintro e w1 ⟨he1, ⟨hr, rfl⟩ | ⟨hr, q, cq, rfl, hsm, hown⟩⟩
      · have HR := Lib.hid (HB.out hr)
        have hrI : ((loadOf m d.interval pg).2 != 0) = true := by simpa using hr
        generalize (loadOf m d.interval pg).2 = x at *
        clear hr
        go_wp2
        go_ret3
        exact findOut_no (he0.trans he1) HR.out
      · have HN2 := Lib.hid (HN.out hr)
        have HS2 := Lib.hid (fun i => HS.out i hr)
        generalize (loadOf m d.interval pg).1 = L at *
        have c15 := Blk.val (he1.blk _ _ hb) 15 _ rfl
        have hsq : Strs w1 q L := by
          obtain ⟨q', k', he, hq, _⟩ := own_strs2 hown
          simp at he; obtain ⟨rfl, rfl⟩ := he; exact hq
        have Hsq := Lib.hid hsq
        have Hown := Lib.hid (own_le hown he0.size)
        have Hsm := Lib.hid hsm
        have HX : Hid (idxOf L off = idxFrom (L.drop 0) 0 (sumLen (L.take 0)) off) := Lib.hid rfl
        clear hsq hown hsm hr hw
        go_wp2_with fail
        go_loop [10, 46] (fun at' i => ∃ k : Nat, k ≤ L.length ∧ i = .int .i64 k ∧ at' = .int .i64 (M + (sumLen (L.take k) : Int)) ∧ idxOf L off = idxFrom (L.drop k) k (sumLen (L.take k)) off) (fun _ i => L.length - (intOf i).toNat)
        case atStart => exact ⟨0, Nat.zero_le _, rfl, by simp [sumLen], HX.out⟩
        case round =>
          obtain ⟨k, hk, rfl, rfl, hix⟩ := hrel
          have Hix := Lib.hid hix
          clear hix
          have hsb : sumLen (L.take k) ≤ 600000000 := by
            have h1 := sumLen_le6 (L.take k) (fun s hs => Hsm.out.2 s (List.mem_of_mem_take hs))
            have h2 : (L.take k).length ≤ 600 := by simp; omega
            have h3 := Nat.mul_le_mul_right 1000000 h2
            omega
          by_cases hlt : k < L.length
          · have hltI : (k : Int) < L.length := by omega
            obtain ⟨b, o, rfl, hbb, hc⟩ := Hsq.out.at k hlt
            have hck := hc k hlt
            have HT := Lib.hid (sumLen_take6 L k hlt)
            have HD := Lib.hid (idx_drop L k off hlt)
            have hxl : (L.getD k []).length ≤ 1000000 := Hsm.out.at k
            clear hc
            generalize L.getD k [] = x at *
            by_cases hf2 : sumLen (L.take k) = off
            · have heI : (M + (sumLen (L.take k) : Int) == a) = true := by have := HDM.out; simp; omega
              have HF : Hid (idxOf L off = some k) := Lib.hid (by rw [Hix.out, HD.out, if_pos hf2])
              clear hf2
              generalize sumLen (L.take k) = S at *
              go_wp2
              go_ret3
              exact findOut_yes (he0.trans he1) (HS2.out k HF.out) Hown.out Hsm.out
            · have heI : (M + (sumLen (L.take k) : Int) == a) = false := by have := HDM.out; simp; omega
              have HF : Hid (idxOf L off = idxFrom (L.drop (k + 1)) (k + 1) (sumLen (L.take (k + 1))) off) := Lib.hid (by rw [Hix.out, HD.out, if_neg hf2])
              clear hf2
              go_wp2
              go_round
              case rel => exact ⟨k + 1, by omega, by go_num, by rw [HT.out]; go_num, HF.out⟩
              case measure => simp [intOf]; omega
          · have hltI : decide ((k : Int) < L.length) = false := by simp; omega
            have HF : Hid (idxOf L off = none) := Lib.hid (by rw [Hix.out, List.drop_eq_nil_of_le (by omega)]; rfl)
            go_wp2
            go_ret3
            exact findOut_no (he0.trans he1) (HN2.out HF.out)
end Go.Proofs.YtkhlglkipeoalaaDoor
/- The walk of the program's Get. -/
namespace Go.Proofs.YtkhlglkipeoalaaDoor
open Go.RowKit Dsd

/-- What Get answers. -/
noncomputable def getOf (m : List (List UInt8)) (h : Hd) (d : DS) (a : Int) : List UInt8 × Int :=
  if doorOf h d 1 ≠ 0 then ([], doorOf h d 1) else if (findOf m d.interval h.fin a).2.2 ≠ 0 then ([], (findOf m d.interval h.fin a).2.2) else ((findOf m d.interval h.fin a).1.getD (findOf m d.interval h.fin a).2.1 [], 0)
theorem findOf_lt {m : List (List UInt8)} {size fin a : Int} (h : (findOf m size fin a).2.2 = 0) : (findOf m size fin a).2.1 < (findOf m size fin a).1.length := by
  by_cases h1 : a < size ∨ fin < a / size
  · rw [findOf_out h1] at h; simp at h
  · by_cases h2 : (loadOf m size (a / size)).2 = 0
    · cases h3 : idxOf (loadOf m size (a / size)).1 (a % size).toNat with
      | none => rw [findOf_none h1 h2 h3] at h; simp at h
      | some i =>
        rw [findOf_some h1 h2 h3]
        have := idx_lt _ _ _ _ _ h3
        simp; omega
    · rw [findOf_bad h1 h2] at h; exact absurd h h2

set_option maxRecDepth 100000 in
set_option maxHeartbeats 1000000 in
theorem Get_any (p : Option Addr) (n cap : Nat) (m : List (List UInt8)) (h : Hd) (d : DS) (a : Int) (hwr : ∀ s : Int, 0 < s → IntKind.i64.wrap (a.tdiv s) = a.tdiv s) (w : World) (hs : Strs w p m) (hn : m.length = n) (hm : Small m) :
    Calls Tryd.prog 29 #[.iface 29 (.slice p n cap), .agg #[.int .i64 h.applied, .int .i64 h.count, .int .i64 h.fin, .int .i64 h.root, .int .i64 h.height, .int .i64 h.splits, .int .i64 h.areas], .agg #[.int .i64 d.id, .int .i64 d.org, .int .i64 d.format, .int .i64 d.length, .int .i64 d.block, .int .i64 d.keyAt, .int .i64 d.keyLength, .int .i64 d.interval, .int .i64 d.area, .int .i64 d.freeInterval, .int .i64 d.freeArea, .int .i64 d.base, .int .i64 d.altAt, .int .i64 d.altLength, .bool d.unique, .int .i64 d.cls, .string ⟨d.volume.toArray⟩, .string ⟨d.owner.toArray⟩, .int .i64 d.created, .int .i64 d.expires, .bool d.archived], .int .i64 a] w fun e w' => e = .returned (.tuple #[.string ⟨(getOf m h d a).1.toArray⟩, .int .i64 (getOf m h d a).2]) ∧ Ext w w' := by
  have Hs := Lib.hid hs
  have Hop := Lib.hid (open_any p n cap h d)
  have Hwr := Lib.hid hwr
  clear hs hwr
  go_enter Tryd.func29, Tryd.ntmps29
  go_upto_region 1 with (fail)
  refine wp_name (fun w0 => Ext w w0 ∧ HdAt w0 w.heap.size h ∧ DsAt w0 (w.heap.size + 1) d) (hd_ds w h d) ?_
  rintro w0 ⟨he0, hb1, hb2⟩
  go_wp2_with (first | (refine wpList_ds rfl (.tmp 6) rfl _ rfl d hb2 ?_) | (refine wpList_hd rfl (.tmp 5) rfl _ rfl h hb1 ?_))
  refine (Hop.out _).mono ?_
  rintro e w1 ⟨he1, ⟨hdo, rfl⟩ | ⟨hdo, rfl⟩⟩
  · obtain ⟨hva, hpl, hor⟩ := door_zero hdo
    have v3 := (valid_spec hva).2.2.1
    have p4 := (plain_spec hpl).2.2.2
    have HR := Lib.hid (show getOf m h d a = if (findOf m d.interval h.fin a).2.2 ≠ 0 then ([], (findOf m d.interval h.fin a).2.2) else ((findOf m d.interval h.fin a).1.getD (findOf m d.interval h.fin a).2.1 [], 0) by unfold getOf; rw [if_neg (by simp [hdo])])
    have Hfi := Lib.hid (fun w hs => find_any p n cap m h d a Hwr.out w hs hn hm v3 p4)
    have Hlt := Lib.hid (@findOf_lt m d.interval h.fin a)
    clear hdo hva hpl hor v3
    go_wp2_with (first | (refine wpList_put rfl 77 (.tmp 10) (.tmp 19) rfl _ #[.iface 29 (.slice p n cap), .int .i64 h.applied, .int .i64 h.count, .int .i64 h.fin, .int .i64 h.root, .int .i64 h.height, .int .i64 h.splits, .int .i64 h.areas, .int .i64 d.id, .int .i64 d.org, .int .i64 d.format, .int .i64 d.length, .int .i64 d.block, .int .i64 d.keyAt, .int .i64 d.keyLength, .int .i64 d.interval, .int .i64 d.area, .int .i64 d.freeInterval, .int .i64 d.freeArea, .int .i64 d.base, .int .i64 d.altAt, .int .i64 d.altLength, .bool d.unique, .int .i64 d.cls, .string ⟨d.volume.toArray⟩, .string ⟨d.owner.toArray⟩, .int .i64 d.created, .int .i64 d.expires, .bool d.archived] rfl rfl _ _ (Blk.new w1 _) clSize rfl (cl_one _ rfl h d) ?_; intro w2 hcl hc2; have he2 : Ext w1 w2 := hc2.ext (Ext.alloc _ _) (Nat.le_refl _)) | (refine wpList_row rfl 77 (.tmp 10) rfl _ rfl _ _ _ hcl clDesc rfl clSize ?_))
    refine (Hfi.out _ (Hs.out.ext ((he0.trans he1).trans he2))).mono ?_
    rintro e w3 ⟨he3, q, k, c, rfl, hk, hown, hsm⟩
    generalize findOf m d.interval h.fin a = R at *
    obtain ⟨L, i, x⟩ := R
    simp only at hk hown hsm
    subst hk
    by_cases hx : x = 0
    · subst hx
      have hi : i < L.length := Hlt.out rfl
      have hiI : (i : Int) < L.length := by omega
      have hsq : Strs w3 q L := by
        obtain ⟨q', k', he, hq, _⟩ := own_strs2 hown
        simp at he; obtain ⟨rfl, rfl⟩ := he; exact hq
      obtain ⟨b, o, rfl, hb, hc⟩ := hsq.at i hi
      have hci := hc i hi
      have HR2 : Hid (getOf m h d a = (L.getD i [], 0)) := Lib.hid (by rw [HR.out]; simp)
      have hll : L.length ≤ 1000000 := hsm.1
      clear hc hsq hown hsm
      generalize L.getD i [] = s at *
      go_wp2
      go_ret2
      exact ⟨ret_page (by rw [HR2.out]) (by rw [HR2.out]), ((he0.trans he1).trans he2).trans he3⟩
    · have hxI : (x != 0) = true := by simpa using hx
      have HR2 : Hid (getOf m h d a = ([], x)) := Lib.hid (by rw [HR.out]; simp [hx])
      clear hx hown hsm
      go_wp2
      go_ret2
      exact ⟨ret_page (by rw [HR2.out]) (by rw [HR2.out]), ((he0.trans he1).trans he2).trans he3⟩
  · have HR : Hid (getOf m h d a = ([], doorOf h d 1)) := Lib.hid (by unfold getOf; rw [if_pos hdo])
    have hdI : (doorOf h d 1 != 0) = true := by simpa using hdo
    generalize doorOf h d 1 = c at *
    clear hdo
    go_wp2_with (first | (refine wpList_put rfl 77 (.tmp 10) (.tmp 19) rfl _ clZero rfl rfl _ _ (Blk.new w1 _) clSize rfl clZero_one ?_; intro w2 hcl hc2; have he2 : Ext w1 w2 := hc2.ext (Ext.alloc _ _) (Nat.le_refl _)))
    go_ret2
    exact ⟨ret_page (by rw [HR.out]) (by rw [HR.out]), (he0.trans he1).trans he2⟩
end Go.Proofs.YtkhlglkipeoalaaDoor
