/- The walk of the reference's DecodeSlots. -/
import Derived.Test.YtjgdhlpnpihkdaaDoorW23
import Derived.Test.YtjgdhlpnpihkdaaDoorP17f
import Derived.Test.YtjgdhlpnpihkdaaDoorGA
import Derived.Deep.DeepMust
import Derived.Test.YtjgdhlpnpihkdaaDoorW10
set_option linter.unusedSimpArgs false
set_option linter.unusedVariables false
namespace Go.Proofs.YtjgdhlpnpihkdaaDoor
open Go.RowKit Dsd

theorem Blk.new2 (w : World) (o o' : Obj) : Blk ((w.alloc o).alloc o') (w.heap.size + 1) o' := by have := Blk.new (w.alloc o) o'; simpa using this
theorem own_slts {w : World} {base : Nat} {e : TypeId} {v : Value} {L : List Slt} (h : w.ownsRow base e 2 v L.length (slotCells L)) : ∃ p cap, v = .slice p L.length cap ∧ Slts w p L ∧ L.length ≤ cap ∧ cap ≤ maxLen := by
  obtain ⟨hl, ⟨rfl, hz⟩ | ⟨g, cap, cur, rfl, _, hg, h1, h2, h3, h4⟩⟩ := h
  · have : L = [] := List.eq_nil_of_length_eq_zero hz
    subst this
    exact ⟨none, 0, rfl, .inl rfl, by simp, by simp⟩
  · refine ⟨some ⟨g, 0, none⟩, cap, rfl, .inr ⟨g, 0, rfl, (Array.getElem?_eq_some_iff.1 hg).1, fun i hi => ?_⟩, h1, h2⟩
    obtain ⟨a, b⟩ := slotCells_at L i hi
    rw [← h4, List.getElem?_take] at a b
    have c1 : i * 2 < L.length * 2 := by omega
    have c2 : i * 2 + 1 < L.length * 2 := by omega
    rw [if_pos c1] at a
    rw [if_pos c2] at b
    simp only [World.cell?, hg]
    simp at a b ⊢
    exact ⟨a, b⟩

theorem infoSlot : (Tryd.prog.info? 131).map (fun i => (i.zero, i.size, i.bytes)) = some (some (.agg #[.bool false, .string ByteArray.empty]), 2, 24) := by kernel_rfl

/-- What DecodeSlots hands back. -/
def SlotsOut (size length : Int) (d : List UInt8) (w : World) (e : Ending) (w' : World) : Prop :=
  Ext w w' ∧ ∃ p cap m, e = .returned (.tuple #[.slice p m cap, .int .i64 (dsErr size length d)]) ∧ m = (dsOut size length d).length ∧ Slts w' p (dsOut size length d) ∧ m ≤ cap ∧ cap ≤ maxLen ∧ w'.ownsRow w.heap.size 131 2 (.slice p m cap) m (slotCells (dsOut size length d))
theorem slotsOut_no {size length : Int} {d : List UInt8} {w w' : World} {c : Int} (h : Ext w w') (hc : dsErr size length d = c) (h0 : c ≠ 0) : SlotsOut size length d w (.returned (.tuple #[.slice none 0 0, .int .i64 c])) w' := by
  subst hc
  have : dsOut size length d = [] := by unfold dsOut; rw [if_neg h0]
  exact ⟨h, none, 0, 0, rfl, by rw [this]; rfl, by rw [this]; exact .inl rfl, by simp, by simp, by rw [this]; exact World.ownsRow_nil _ _ _ _⟩
theorem slotsOut_yes {size length : Int} {d : List UInt8} {w w' : World} {p : Option Addr} {m cap : Nat} (h : Ext w w') (hc : dsErr size length d = 0) (hm : (dsOut size length d).length = m) (hs : Slts w' p (dsOut size length d)) (h1 : m ≤ cap) (h2 : cap ≤ maxLen)
    (ho : w'.ownsRow w.heap.size 131 2 (.slice p m cap) m (slotCells (dsOut size length d))) :
    SlotsOut size length d w (.returned (.tuple #[.slice p m cap, .int .i64 0])) w' := ⟨h, p, cap, m, by rw [hc], hm.symm, hs, h1, h2, ho⟩

theorem own_slotCells {w : World} {base : Nat} {e : TypeId} {v : Value} {n len k : Nat} {d : List UInt8} {u : Bool} {s : List UInt8} (h : w.ownsRow base e 2 v (k + 1) (slotCells (dsList n len d k) ++ [.bool u, .string ⟨s.toArray⟩])) (hs : dsSlot n len d k = (u, s)) :
    w.ownsRow base e 2 v (k + 1) (slotCells (dsList n len d (k + 1))) := by
  rw [dsList_succ, slotCells_snoc, hs]; exact h

set_option maxRecDepth 100000 in
set_option maxHeartbeats 2000000 in
theorem DecodeSlots_ref_main (n len N : Nat) (hn4 : n = 128 ∨ n = 256 ∨ n = 512) (h1 : 1 ≤ len) (h2 : len ≤ 200) (h3 : len + 7 ≤ n) (hN : slotsN n len = N) (hN0 : N ≠ 0) (hroom : N * (len + 3) + 4 ≤ n) (d : List UInt8) (hd : d.length = n) (hu : (d == List.replicate d.length 0) = false) (w : World) :
    Calls Tryd.prog 106 #[.int .i64 n, .int .i64 len, .string ⟨d.toArray⟩] w (SlotsOut n len d w) := by
  have hil : (isSizeB n && decide ((1 : Int) ≤ len) && decide ((len : Int) ≤ 200) && decide ((len : Int) ≤ (n : Int) - 7)) = true := by
    have hi : isSizeB n = true := by rcases hn4 with rfl | rfl | rfl <;> rfl
    simp [hi]; omega
  have Hil := Lib.hid hil
  have HN := Lib.hid hN
  have hN5 : N ≤ 512 := by have := Nat.le_mul_of_pos_right N (show 0 < len + 3 by omega); omega
  have hn5 : n ≤ 512 := by omega
  have hun := Unused_ref d (by omega)
  rw [hu] at hun
  have Hun := Lib.hid hun
  have hnq : ((d.length : Int) != (n : Int)) = false := by simp [hd]
  have HE : Hid (dsErr n len d = if esErr n len (dsList n len d N) = 0 ∧ esStr n len (dsList n len d N) = d then 0 else 11) := Lib.hid (by
    unfold dsErr
    rw [hN, hu, hd, if_neg (by omega), if_neg (by simp), if_neg (by simp)]; rfl)
  have HO : Hid (dsErr n len d = 0 → dsOut n len d = dsList n len d N) := Lib.hid (fun h => by unfold dsOut; rw [if_pos h, hN]; rfl)
  have hn7 : n ≤ d.length := by omega
  have Hd := Lib.hid hd
  have Hroom := Lib.hid hroom
  clear hil hN hun hu hd
  go_enter Tryd.func106, Tryd.ntmps106
  go_wp2_with (first | (go_at_call 66; refine (IsLength_any _ _ _).mono ?_; rw [Hil.out]; rintro e w' ⟨rfl, rfl⟩) | (go_at_call 113; refine (Hun.out _).mono ?_; rintro e w2 ⟨rfl, he2⟩))
  obtain ⟨B, hB⟩ : ∃ B, B = w2.heap.size := ⟨_, rfl⟩
  have HB := Lib.hid hB
  clear hB
  go_loopw [8, 9] (fun v i wr => ∃ k : Nat, k ≤ N ∧ i = .int .i64 k ∧ wr.ownsRow B 131 2 v k (slotCells (dsList n len d k)) ∧ Below B w2 wr ∧ B ≤ wr.heap.size) (fun _ i _ => N - (intOf i).toNat)
  case atStart => exact ⟨0, Nat.zero_le _, rfl, World.ownsRow_made w2 #[] 0 (by rw [HB.out]; exact Nat.le_refl _) (by simp) rfl, (Below.refl _ _).alloc (by rw [HB.out]; exact Nat.le_refl _) _, by rw [HB.out]; simp⟩
  case round =>
    obtain ⟨k, hk, rfl, hown, hbel, hbs⟩ := hrel
    by_cases hkN : k < N
    · have hkI : (k : Int) < N := by omega
      have hkl : (k + 1) * (len + 3) ≤ N * (len + 3) := Nat.mul_le_mul_right _ hkN
      rw [Nat.add_mul, Nat.mul_add] at hkl
      obtain ⟨a, ha⟩ : ∃ a, a = k * len := ⟨_, rfl⟩
      rw [← ha] at hkl
      have ha1 : (k : Int) * len = (a : Nat) := by rw [ha]; simp
      have ha2 : ((k : Int) + 1) * len = ((a + len : Nat) : Int) := by rw [Int.add_mul, ha1]; simp
      obtain ⟨x, hx⟩ : ∃ x, x = n - 7 - 3 * k := ⟨_, rfl⟩
      have hx1 : (n : Int) - 7 - 3 * k = (x : Nat) := by omega
      have hxl : x < d.length := by omega
      have hal : a + len ≤ d.length := by omega
      have hal5 : a + len ≤ 512 := by omega
      have hk3 : 3 * k ≤ 512 := by omega
      have HS : Hid (dsSlot n len d k = if byt d x = 0 then (true, (d.drop a).take len) else (false, [])) := Lib.hid (by unfold dsSlot; rw [hx, ha])
      clear ha hx hkl hroom
      have hb2 : Below B wr (wr.alloc (.cells #[.bool false, .string ⟨#[]⟩] 131)) := (Below.refl _ _).alloc hbs _
      by_cases hz : byt d x = 0
      · have hzI : ((byt d x : Int) == 0) = true := by simp [hz]
        go_wp2_with (first | (go_at_call 35; refine (SlotCount_ref _ _ _).mono ?_; rw [HN.out]; rintro e w' ⟨rfl, rfl⟩) | (at_builtin; go_must (refine wpList_app rfl (.tmp 53) (.tmp 55) 127 131 rfl B (.agg #[.bool false, .string ByteArray.empty]) 2 24 Tryd.underlying127 infoSlot rfl (by decide) _ _ _ rfl ((hown.alloc _).alloc _) _ [_, _] rfl (Blk.new2 _ _ _) rfl (by intro u hu; simp at hu; rcases hu with rfl | rfl <;> rfl) (by omega) (by decide) (by simp; omega) ?_; intro v' w1 hown1 hgr1; have hb1 := Below.of_grown (B := B) hgr1 ((hown.alloc _).alloc _) (Nat.le_refl _) (by simp; omega); have hs1 := hgr1.size; have hb3 := (((Below.refl B wr).alloc hbs _).alloc (by simp; omega) _).trans hb1; simp at hs1; clear hgr1 hb1)))
        go_roundw
        case rel => exact ⟨k + 1, by omega, by go_num, own_slotCells hown1 (by rw [HS.out]; simp [hz]), hbel.trans hb3, by omega⟩
        case measure => simp [intOf]; omega
      · have hzI : ((byt d x : Int) == 0) = false := by simp; omega
        go_wp2_with (first | (go_at_call 35; refine (SlotCount_ref _ _ _).mono ?_; rw [HN.out]; rintro e w' ⟨rfl, rfl⟩) | (at_builtin; go_must (refine wpList_app rfl (.tmp 53) (.tmp 55) 127 131 rfl B (.agg #[.bool false, .string ByteArray.empty]) 2 24 Tryd.underlying127 infoSlot rfl (by decide) _ _ _ rfl ((hown.alloc _).alloc _) _ [_, _] rfl (Blk.new2 _ _ _) rfl (by intro u hu; simp at hu; rcases hu with rfl | rfl <;> rfl) (by omega) (by decide) (by simp; omega) ?_; intro v' w1 hown1 hgr1; have hb1 := Below.of_grown (B := B) hgr1 ((hown.alloc _).alloc _) (Nat.le_refl _) (by simp; omega); have hs1 := hgr1.size; have hb3 := (((Below.refl B wr).alloc hbs _).alloc (by simp; omega) _).trans hb1; simp at hs1; clear hgr1 hb1)))
        go_roundw
        case rel => exact ⟨k + 1, by omega, by go_num, own_slotCells hown1 (by rw [HS.out]; simp [hz]), hbel.trans hb3, by omega⟩
        case measure => simp [intOf]; omega
    · have hkN' : k = N := by omega
      subst hkN'
      have hkI : decide ((k : Int) < k) = false := by simp
      have hext : ∀ {W : World}, Ext wr W → Ext w W := fun hW => he2.trans (Ext.trans (show Ext w2 wr by unfold Ext; rw [← HB.out]; exact hbel) hW)
      have Hext : ∀ {W : World}, Hid (Ext wr W → Ext w W) := fun {W} => Lib.hid (hext (W := W))
      clear hext hroom
      have hlen := length_dsList n len d k
      generalize dsList n len d k = out at *
      rw [← hlen] at hown
      obtain ⟨q, cq, hv, hsq, hcq1, hcq2⟩ := own_slts hown
      rw [hlen] at hv hcq1
      subst hv
      rw [hlen] at hown
      have Hown := Lib.hid (own_le hown (show w.heap.size ≤ B by rw [HB.out]; exact he2.size))
      have Hsq := Lib.hid hsq
      have HL := Lib.hid hlen
      clear hsq hown hlen
      have hen := EncodeSlots_ref n len q cq k out HL.out (by omega)
      by_cases h1 : esErr n len out = 0
      · have h1' : ((esErr n len out) != 0) = false := by simp [h1]
        by_cases h2 : esStr n len out = d
        · have h2' : (esStr n len out == d) = true := by simp [h2]
          have HE0 : Hid (dsErr n len d = 0) := Lib.hid (by rw [HE.out, if_pos ⟨h1, h2⟩])
          generalize esErr n len out = ee at *
          generalize esStr n len out = es at *
          have Hen := Lib.hid hen
          clear hen h1 h2
          go_wp2_with (first | (go_at_call 35; refine (SlotCount_ref _ _ _).mono ?_; rw [HN.out]; rintro e w' ⟨rfl, rfl⟩) | (go_at_call 107; refine (Hen.out _ Hsq.out).mono ?_; rintro e w3 ⟨rfl, he3⟩))
          go_ret2
          exact slotsOut_yes (Hext.out he3) HE0.out (by rw [HO.out HE0.out]; exact HL.out) (by rw [HO.out HE0.out]; exact Hsq.out.ext he3) hcq1 hcq2 (by rw [HO.out HE0.out]; exact own_ext Hown.out he3)
        · have h2' : (esStr n len out == d) = false := by simp [h2]
          have HE0 : Hid (dsErr n len d = 11) := Lib.hid (by rw [HE.out, if_neg (fun h => h2 h.2)])
          generalize esErr n len out = ee at *
          generalize esStr n len out = es at *
          have Hen := Lib.hid hen
          clear hen h1 h2
          go_wp2_with (first | (go_at_call 35; refine (SlotCount_ref _ _ _).mono ?_; rw [HN.out]; rintro e w' ⟨rfl, rfl⟩) | (go_at_call 107; refine (Hen.out _ Hsq.out).mono ?_; rintro e w3 ⟨rfl, he3⟩))
          go_ret2
          exact slotsOut_no (Hext.out he3) HE0.out (by decide)
      · have h1' : ((esErr n len out) != 0) = true := by simp [h1]
        have HE0 : Hid (dsErr n len d = 11) := Lib.hid (by rw [HE.out, if_neg (fun h => h1 h.1)])
        generalize esErr n len out = ee at *
        generalize esStr n len out = es at *
        have Hen := Lib.hid hen
        clear hen h1
        go_wp2_with (first | (go_at_call 35; refine (SlotCount_ref _ _ _).mono ?_; rw [HN.out]; rintro e w' ⟨rfl, rfl⟩) | (go_at_call 107; refine (Hen.out _ Hsq.out).mono ?_; rintro e w3 ⟨rfl, he3⟩))
        go_ret2
        exact slotsOut_no (Hext.out he3) HE0.out (by decide)

set_option maxRecDepth 100000 in
/-- DecodeSlots, for any bytes. -/
theorem DecodeSlots_ref (size length : Int) (d : List UInt8) (hd : d.length ≤ 1000000) (w : World) :
    Calls Tryd.prog 106 #[.int .i64 size, .int .i64 length, .string ⟨d.toArray⟩] w (SlotsOut size length d w) := by
  rcases slots_cases size length with ⟨h0, hb⟩ | ⟨n, len, N, rfl, rfl, h1, h2, h3, h4, h5, h6, h7, hb⟩
  · have HE : Hid (dsErr size length d = 1) := Lib.hid (by unfold dsErr; rw [if_pos h0])
    have Hil := Lib.hid hb
    clear hb h0
    go_enter Tryd.func106, Tryd.ntmps106
    go_wp2_with (go_at_call 66; refine (IsLength_any _ _ _).mono ?_; rw [Hil.out]; rintro e w' ⟨rfl, rfl⟩)
    go_ret2
    exact slotsOut_no (Ext.refl _) HE.out (by decide)
  · have hN0 : ¬ slotsN n len = 0 := by rw [h5]; omega
    by_cases h8 : d.length = n
    · by_cases h9 : (d == List.replicate d.length 0) = true
      · have HE : Hid (dsErr n len d = 9) := Lib.hid (by unfold dsErr; rw [if_neg hN0, if_neg (by omega), if_pos h9])
        have hun := Unused_ref d hd
        rw [h9] at hun
        have Hun := Lib.hid hun
        have hnq : ((d.length : Int) != (n : Int)) = false := by simp [h8]
        have Hil := Lib.hid hb
        clear hun h9 h8 hb h5 h7 hN0
        go_enter Tryd.func106, Tryd.ntmps106
        go_wp2_with (first | (go_at_call 66; refine (IsLength_any _ _ _).mono ?_; rw [Hil.out]; rintro e w' ⟨rfl, rfl⟩) | (go_at_call 113; refine (Hun.out _).mono ?_; rintro e w1 ⟨rfl, he1⟩))
        go_ret2
        exact slotsOut_no he1 HE.out (by decide)
      · exact DecodeSlots_ref_main n len N h1 h2 h3 h4 h5 h6 h7 d h8 (by simpa using h9) w
    · have HE : Hid (dsErr n len d = 11) := Lib.hid (by unfold dsErr; rw [if_neg hN0, if_pos (by omega)])
      have hnq : ((d.length : Int) != (n : Int)) = true := by simp; omega
      have Hil := Lib.hid hb
      clear h8 hb h5 h7 hN0
      go_enter Tryd.func106, Tryd.ntmps106
      go_wp2_with (first | (go_at_call 66; refine (IsLength_any _ _ _).mono ?_; rw [Hil.out]; rintro e w' ⟨rfl, rfl⟩))
      go_ret2
      exact slotsOut_no (Ext.refl _) HE.out (by decide)
end Go.Proofs.YtjgdhlpnpihkdaaDoor
/- The walk of the program's DecodeSlots. -/
namespace Go.Proofs.YtjgdhlpnpihkdaaDoor
open Go.RowKit Dsd

theorem mk_at (N i : Nat) (h : i < N) : (slotCells (List.replicate N (false, [])))[i * 2]? = some (.bool false) ∧ (slotCells (List.replicate N (false, [])))[i * 2 + 1]? = some (.string ⟨#[]⟩) := by
  have := slotCells_at (List.replicate N (false, [])) i (by simpa using h)
  simpa [List.getD, h] using this
/-- 'make([]Slot, n)'. -/
theorem run_make_slots (w : World) (N : Nat) (hc : N ≤ 512) :
    (Instr.makeSlice 127 (.int .i64 N) (.int .i64 N)).run Tryd.prog w = .ok (.slice (some ⟨w.heap.size, 0, none⟩) N N) (w.alloc (.cells (slotCells (List.replicate N (false, []))).toArray 131)) := by
  obtain ⟨i, hi, hz0, hz1, hz2⟩ := info_parts infoSlot
  rw [run_make w 127 131 i _ Tryd.underlying127 hi hz0 .i64 .i64 N N (by omega) (by omega) (by rw [hz2]; omega) (by omega)]
  have e1 : madeCells (Value.cells (.agg #[.bool false, .string ByteArray.empty])) (((N : Int)).toNat * i.size) = (slotCells (List.replicate N (false, []))).toArray := by
    apply Array.ext
    · simp [madeCells, hz1, length_slotCells]; omega
    · intro j h1 h2
      simp [hz1, madeCells] at h1
      have hj : j / 2 < N := by omega
      have hm := mk_at N (j / 2) hj
      rcases Nat.mod_two_eq_zero_or_one j with h | h
      · have e : j / 2 * 2 = j := by omega
        rw [e] at hm
        have := hm.1
        rw [List.getElem?_eq_some_iff] at this
        obtain ⟨_, h3⟩ := this
        simp [madeCells, Value.cells, h, h3]
      · have e : j / 2 * 2 + 1 = j := by omega
        rw [e] at hm
        have := hm.2
        rw [List.getElem?_eq_some_iff] at this
        obtain ⟨_, h3⟩ := this
        simp [madeCells, Value.cells, h, h3]
        rfl
  rw [e1]; simp

/-- The slots of which the first k are read. -/
def dsPart (n len : Nat) (d : List UInt8) (N k : Nat) : List Slt := dsList n len d k ++ List.replicate (N - k) (false, [])
theorem length_dsPart {n len : Nat} {d : List UInt8} {N k : Nat} (h : k ≤ N) : (dsPart n len d N k).length = N := by simp [dsPart, length_dsList]; omega

theorem slotCells_cons (x : Slt) (L : List Slt) : slotCells (x :: L) = .bool x.1 :: .string ⟨x.2.toArray⟩ :: slotCells L := by simp [slotCells]
theorem slotCells_set (L : List Slt) (k : Nat) (h : k < L.length) (u : Bool) (s : List UInt8) : ((slotCells L).set (k * 2) (.bool u)).set (k * 2 + 1) (.string ⟨s.toArray⟩) = slotCells (L.set k (u, s)) := by
  induction L generalizing k with
  | nil => simp at h
  | cons x L ih =>
    rw [slotCells_cons]
    cases k with
    | zero => simp [slotCells_cons]
    | succ k =>
      have e : (k + 1) * 2 = k * 2 + 1 + 1 := by omega
      rw [e]
      simp only [List.set_cons_succ, slotCells_cons]
      rw [ih k (by simpa using h)]
theorem dsPart_next {n len : Nat} {d : List UInt8} {N k : Nat} (h : k < N) : (dsPart n len d N k).set k (dsSlot n len d k) = dsPart n len d N (k + 1) := by
  unfold dsPart
  have e : N - k = N - (k + 1) + 1 := by omega
  rw [List.set_append_right _ _ (by rw [length_dsList]; exact Nat.le_refl _), length_dsList, Nat.sub_self, e, List.replicate_succ, List.set_cons_zero, dsList_succ]
  simp
theorem dsPart_same {n len : Nat} {d : List UInt8} {N k : Nat} (h : k < N) (hs : dsSlot n len d k = (false, [])) : dsPart n len d N k = dsPart n len d N (k + 1) := by
  rw [← dsPart_next h, hs]
  unfold dsPart
  have e : N - k = N - (k + 1) + 1 := by omega
  rw [List.set_append_right _ _ (by rw [length_dsList]; exact Nat.le_refl _), length_dsList, Nat.sub_self, e, List.replicate_succ, List.set_cons_zero]
theorem dsPart_all (n len : Nat) (d : List UInt8) (N : Nat) : dsPart n len d N N = dsList n len d N := by simp [dsPart]
theorem blk_slot {w : World} {bb : Nat} {L : List Slt} {t : TypeId} (h : Blk w bb (.cells (slotCells L).toArray t)) (k : Nat) (hk : k < L.length) (u : Bool) (s : List UInt8) :
    Blk ((w.setCell ⟨bb, k * 2, none⟩ (.bool u)).setCell ⟨bb, k * 2 + 1, none⟩ (.string ⟨s.toArray⟩)) bb (.cells (slotCells (L.set k (u, s))).toArray t) := by
  have h1 := heap_setCell_same w bb (k * 2) _ _ (.bool u) h
  have h2 := heap_setCell_same _ bb (k * 2 + 1) _ _ (.string ⟨s.toArray⟩) h1
  unfold Blk
  rw [h2, ← slotCells_set L k hk]
  simp
theorem blk_slts {w : World} {bb : Nat} {L : List Slt} {t : TypeId} (h : Blk w bb (.cells (slotCells L).toArray t)) : Slts w (some ⟨bb, 0, none⟩) L := by
  refine .inr ⟨bb, 0, rfl, Blk.lt h, fun i hi => ?_⟩
  obtain ⟨a, b⟩ := slotCells_at L i hi
  have hb : w.heap[bb]? = _ := h
  simp only [World.cell?, hb]
  simp at a b ⊢
  exact ⟨a, b⟩

theorem blk_own {w : World} {bb base n : Nat} {L : List Slt} {t : TypeId} (h : Blk w bb (.cells (slotCells L).toArray t)) (hb : base ≤ bb) (hl : L.length = n) (hm : n ≤ maxLen) : w.ownsRow base t 2 (.slice (some ⟨bb, 0, none⟩) n n) n (slotCells L) := by
  have hc : (slotCells L).length = n * 2 := by rw [length_slotCells L]; omega
  exact ⟨hc, .inr ⟨bb, n, _, rfl, hb, h, Nat.le_refl _, hm, by rw [List.size_toArray]; exact hc, List.take_of_length_le (Nat.le_of_eq hc)⟩⟩

set_option maxRecDepth 100000 in
set_option maxHeartbeats 2000000 in
theorem DecodeSlots_main (n len N : Nat) (hn4 : n = 128 ∨ n = 256 ∨ n = 512) (h1 : 1 ≤ len) (h2 : len ≤ 200) (h3 : len + 7 ≤ n) (hN : slotsN n len = N) (hN0 : N ≠ 0) (hroom : N * (len + 3) + 4 ≤ n) (d : List UInt8) (hd : d.length = n) (hu : (d == List.replicate d.length 0) = false) (w : World) :
    Calls Tryd.prog 104 #[.int .i64 n, .int .i64 len, .string ⟨d.toArray⟩] w (SlotsOut n len d w) := by
  have hC : checkErr n d = 0 := by unfold checkErr; rw [hu, hd]; simp
  have HN := Lib.hid hN
  have hN5 : N ≤ 512 := by have := Nat.le_mul_of_pos_right N (show 0 < len + 3 by omega); omega
  have hn5 : n ≤ 512 := by omega
  have hch := check_any n d (by omega)
  rw [hC] at hch
  have Hch := Lib.hid hch
  have HE : Hid (dsErr n len d = if esErr n len (dsList n len d N) = 0 ∧ esStr n len (dsList n len d N) = d then 0 else 11) := Lib.hid (by
    unfold dsErr
    rw [hN, hu, hd, if_neg (by omega), if_neg (by simp), if_neg (by simp)]; rfl)
  have HO : Hid (dsErr n len d = 0 → dsOut n len d = dsList n len d N) := Lib.hid (fun h => by unfold dsOut; rw [if_pos h, hN]; rfl)
  have hn7 : n ≤ d.length := by omega
  have Hd := Lib.hid hd
  have hN0I : ((N : Int) == 0) = false := by simp; omega
  have hmk := fun w => run_make_slots w N hN5
  have hNp : (0 : Int) < N := by omega
  clear hN hu hd hch hC
  go_enter Tryd.func104, Tryd.ntmps104
  go_wp2_with (first | (go_at_call 103; refine (SlotCount_any _ _ _).mono ?_; rw [HN.out]; rintro e w' ⟨rfl, rfl⟩) | (go_at_call 118; refine (Hch.out _).mono ?_; rintro e w1 ⟨rfl, hq1⟩))
  have he1 : Ext w w1 := Ext.of_drawn hq1
  obtain ⟨bb, hbb⟩ : ∃ bb, bb = w1.heap.size := ⟨_, rfl⟩
  have hblk : Blk (w1.alloc (.cells (slotCells (dsPart n len d N 0)).toArray 131)) bb (.cells (slotCells (dsPart n len d N 0)).toArray 131) := by rw [hbb]; exact Blk.new _ _
  have hp0 : slotCells (dsPart n len d N 0) = slotCells (List.replicate N (false, [])) := by simp [dsPart, dsList]
  rw [hp0] at hblk
  have he2 := he1.trans (Ext.alloc w1 (.cells (slotCells (List.replicate N (false, []))).toArray 131))
  rw [← hbb]
  have hwb : w.heap.size ≤ bb := by rw [hbb]; exact he1.size
  generalize hwm : w1.alloc (.cells (slotCells (List.replicate N (false, []))).toArray 131) = wm at *
  rw [← hp0] at hblk
  have HB2 := Lib.hid hblk
  have HE2 := Lib.hid he2
  clear hblk he2 he1 hq1 hwm hbb hp0 hmk
  go_loopw [29] (fun i wr => ∃ k : Nat, k ≤ N ∧ i = .int .i64 k ∧ Ext w wr ∧ Blk wr bb (.cells (slotCells (dsPart n len d N k)).toArray 131)) (fun i _ => N - (intOf i).toNat)
  case atStart => exact ⟨0, Nat.zero_le _, rfl, HE2.out, HB2.out⟩
  case round =>
    obtain ⟨k, hk, rfl, hext, hblk⟩ := hrel
    by_cases hkN : k < N
    · have hkI : (k : Int) < N := by omega
      have hkl : (k + 1) * (len + 3) ≤ N * (len + 3) := Nat.mul_le_mul_right _ hkN
      rw [Nat.add_mul, Nat.mul_add] at hkl
      obtain ⟨a, ha⟩ : ∃ a, a = k * len := ⟨_, rfl⟩
      rw [← ha] at hkl
      have ha1 : (k : Int) * len = (a : Nat) := by rw [ha]; simp
      have ha2 : ((k : Int) + 1) * len = ((a + len : Nat) : Int) := by rw [Int.add_mul, ha1]; simp
      obtain ⟨x, hx⟩ : ∃ x, x = n - 7 - 3 * k := ⟨_, rfl⟩
      have hx1 : (n : Int) - 4 - 3 * ((k : Int) + 1) = (x : Nat) := by omega
      have hxl : x < d.length := by omega
      have hal : a + len ≤ d.length := by omega
      have hal5 : a + len ≤ 512 := by omega
      have hk3 : 3 * k ≤ 512 := by omega
      have HS : Hid (dsSlot n len d k = if byt d x = 0 then (true, (d.drop a).take len) else (false, [])) := Lib.hid (by unfold dsSlot; rw [hx, ha])
      clear ha hx hkl hroom
      have hL := slotCells_at (dsPart n len d N k) k (by rw [length_dsPart hk]; exact hkN)
      have hcell : ∀ (j : Nat) (v : Value), (slotCells (dsPart n len d N k))[j]? = some v → wr.cell? ⟨bb, j, none⟩ = some v ∧ wr.frozen? ⟨bb, j, none⟩ = false := fun j v hv => by
        have hb : wr.heap[bb]? = _ := hblk
        simp only [World.cell?, World.frozen?, hb]
        exact ⟨by simpa using hv, by simp⟩
      obtain ⟨c1, f1⟩ := hcell _ _ hL.1
      obtain ⟨c2, f2⟩ := hcell _ _ hL.2
      have HBK := Lib.hid hblk
      clear hcell hL hblk
      by_cases hz : byt d x = 0
      · have hzI : ((byt d x : Int) == 0) = true := by simp [hz]
        go_wp2
        go_roundw
        case rel => exact ⟨k + 1, by omega, by go_num, hext.trans' ((((Below.refl _ _).setCell hwb _).setCell hwb _)), by
          have hs : dsSlot n len d k = (true, (d.drop a).take len) := by rw [HS.out, if_pos hz]
          rw [← dsPart_next hkN, hs]
          exact blk_slot HBK.out k (by rw [length_dsPart hk]; exact hkN) _ _⟩
        case measure => simp [intOf]; omega
      · have hzI : ((byt d x : Int) == 0) = false := by simp; omega
        go_wp2
        go_roundw
        case rel => exact ⟨k + 1, by omega, by go_num, hext, by
          have hs : dsSlot n len d k = (false, []) := by rw [HS.out, if_neg hz]
          rw [← dsPart_same hkN hs]
          exact HBK.out⟩
        case measure => simp [intOf]; omega
    · have hkN' : k = N := by omega
      subst hkN'
      have hkI : decide ((k : Int) < k) = false := by simp
      rw [dsPart_all] at hblk
      have hsq := blk_slts hblk
      have hown := blk_own hblk hwb (length_dsList n len d k) (by unfold maxLen; omega)
      have Hext : ∀ {W : World}, Hid (Ext wr W → Ext w W) := fun {W} => Lib.hid (fun h => hext.trans h)
      have hlen := length_dsList n len d k
      clear hroom hext hblk HB2 HE2
      generalize dsList n len d k = out at *
      have Hsq := Lib.hid hsq
      have Hown := Lib.hid hown
      have HL := Lib.hid hlen
      have hcm : k ≤ maxLen := by unfold maxLen; omega
      have Hcm := Lib.hid hcm
      clear hsq hlen hcm hown
      have hen := EncodeSlots_any n len (some ⟨bb, 0, none⟩) k k out HL.out
      by_cases h1 : esErr n len out = 0
      · have h1' : ((esErr n len out) != 0) = false := by simp [h1]
        by_cases h2 : esStr n len out = d
        · have h2' : (esStr n len out == d) = true := by simp [h2]
          have HE0 : Hid (dsErr n len d = 0) := Lib.hid (by rw [HE.out, if_pos ⟨h1, h2⟩])
          generalize esErr n len out = ee at *
          generalize esStr n len out = es at *
          have Hen := Lib.hid hen
          clear hen h1 h2
          go_wp2_with (first | (go_at_call 105; refine (Hen.out _ Hsq.out).mono ?_; rintro e w3 ⟨rfl, he3⟩))
          go_ret2
          exact slotsOut_yes (Hext.out he3) HE0.out (by rw [HO.out HE0.out]; exact HL.out) (by rw [HO.out HE0.out]; exact Hsq.out.ext he3) (Nat.le_refl _) Hcm.out (by rw [HO.out HE0.out]; exact own_ext Hown.out he3)
        · have h2' : (esStr n len out == d) = false := by simp [h2]
          have HE0 : Hid (dsErr n len d = 11) := Lib.hid (by rw [HE.out, if_neg (fun h => h2 h.2)])
          generalize esErr n len out = ee at *
          generalize esStr n len out = es at *
          have Hen := Lib.hid hen
          clear hen h1 h2
          go_wp2_with (first | (go_at_call 105; refine (Hen.out _ Hsq.out).mono ?_; rintro e w3 ⟨rfl, he3⟩))
          go_ret2
          exact slotsOut_no (Hext.out he3) HE0.out (by decide)
      · have h1' : ((esErr n len out) != 0) = true := by simp [h1]
        have HE0 : Hid (dsErr n len d = 11) := Lib.hid (by rw [HE.out, if_neg (fun h => h1 h.1)])
        generalize esErr n len out = ee at *
        generalize esStr n len out = es at *
        have Hen := Lib.hid hen
        clear hen h1
        go_wp2_with (first | (go_at_call 105; refine (Hen.out _ Hsq.out).mono ?_; rintro e w3 ⟨rfl, he3⟩))
        go_ret2
        exact slotsOut_no (Hext.out he3) HE0.out (by decide)

set_option maxRecDepth 100000 in
/-- DecodeSlots, for any bytes. -/
theorem DecodeSlots_any (size length : Int) (d : List UInt8) (hd : d.length ≤ 1000000) (w : World) :
    Calls Tryd.prog 104 #[.int .i64 size, .int .i64 length, .string ⟨d.toArray⟩] w (SlotsOut size length d w) := by
  rcases slots_cases size length with ⟨h0, hb⟩ | ⟨n, len, N, rfl, rfl, h1, h2, h3, h4, h5, h6, h7, hb⟩
  · have HE : Hid (dsErr size length d = 1) := Lib.hid (by unfold dsErr; rw [if_pos h0])
    have HN := Lib.hid h0
    clear hb h0
    go_enter Tryd.func104, Tryd.ntmps104
    go_wp2_with (go_at_call 103; refine (SlotCount_any _ _ _).mono ?_; rw [HN.out]; rintro e w' ⟨rfl, rfl⟩)
    go_ret2
    exact slotsOut_no (Ext.refl _) HE.out (by decide)
  · have hN0 : ¬ slotsN n len = 0 := by rw [h5]; omega
    have hN0I : ((N : Int) == 0) = false := by simp; omega
    have hch := check_any n d hd
    have HN := Lib.hid h5
    by_cases h8 : d.length = n
    · by_cases h9 : (d == List.replicate d.length 0) = true
      · have HE : Hid (dsErr n len d = 9) := Lib.hid (by unfold dsErr; rw [if_neg hN0, if_neg (by omega), if_pos h9])
        have hC : checkErr n d = 9 := by unfold checkErr; rw [h9, h8]; simp
        rw [hC] at hch
        have Hch := Lib.hid hch
        clear hch hC h9 h8 hb h5 h7 hN0
        go_enter Tryd.func104, Tryd.ntmps104
        go_wp2_with (first | (go_at_call 103; refine (SlotCount_any _ _ _).mono ?_; rw [HN.out]; rintro e w' ⟨rfl, rfl⟩) | (go_at_call 118; refine (Hch.out _).mono ?_; rintro e w1 ⟨rfl, hq1⟩))
        go_ret2
        exact slotsOut_no (Ext.of_drawn hq1) HE.out (by decide)
      · exact DecodeSlots_main n len N h1 h2 h3 h4 h5 h6 h7 d h8 (by simpa using h9) w
    · have HE : Hid (dsErr n len d = 11) := Lib.hid (by unfold dsErr; rw [if_neg hN0, if_pos (by omega)])
      have hC : checkErr n d = 11 := by unfold checkErr; rw [if_pos (by omega)]
      rw [hC] at hch
      have Hch := Lib.hid hch
      clear hch hC h8 hb h5 h7 hN0
      go_enter Tryd.func104, Tryd.ntmps104
      go_wp2_with (first | (go_at_call 103; refine (SlotCount_any _ _ _).mono ?_; rw [HN.out]; rintro e w' ⟨rfl, rfl⟩) | (go_at_call 118; refine (Hch.out _).mono ?_; rintro e w1 ⟨rfl, hq1⟩))
      go_ret2
      exact slotsOut_no (Ext.of_drawn hq1) HE.out (by decide)
end Go.Proofs.YtjgdhlpnpihkdaaDoor
