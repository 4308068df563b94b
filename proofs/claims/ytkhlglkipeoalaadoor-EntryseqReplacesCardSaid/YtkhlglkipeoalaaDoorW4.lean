/- The walk of the reference's Decode. -/
import Derived.Test.YtkhlglkipeoalaaDoorW3
import Derived.Test.YtkhlglkipeoalaaDoorPA
import Derived.Deep.DeepMust
set_option linter.unusedSimpArgs false
set_option linter.unusedVariables false
namespace Go.Proofs.YtkhlglkipeoalaaDoor
open Go.RowKit Dsd

theorem infoStr : (Tryd.prog.info? 9).map (fun i => (i.zero, i.size, i.bytes)) = some (some (.string ByteArray.empty), 1, 16) := by kernel_rfl

theorem own_strs2 {w : World} {base : Nat} {e : TypeId} {v : Value} {L : List (List UInt8)} (h : w.ownsRow base e 1 v L.length (L.map fun s => .string ⟨s.toArray⟩)) : ∃ p cap, v = .slice p L.length cap ∧ Strs w p L ∧ L.length ≤ cap ∧ cap ≤ maxLen := by
  obtain ⟨p, cap, hv, hc, h1, h2⟩ := own_cells h
  exact ⟨p, cap, by simpa using hv, hc, by simpa using h1, h2⟩
theorem own_le {w : World} {base base' : Nat} {e : TypeId} {size : Nat} {v : Value} {n : Nat} {xs : List Value} (h : w.ownsRow base e size v n xs) (hb : base' ≤ base) : w.ownsRow base' e size v n xs := by
  obtain ⟨hl, h | ⟨g, cap, cur, h1, h2, h3⟩⟩ := h
  · exact ⟨hl, .inl h⟩
  · exact ⟨hl, .inr ⟨g, cap, cur, h1, Nat.le_trans hb h2, h3⟩⟩
theorem own_extR {w w' : World} {base : Nat} {e : TypeId} {size : Nat} {v : Value} {n : Nat} {xs : List Value} (h : w.ownsRow base e size v n xs) (he : Ext w w') : w'.ownsRow base e size v n xs :=
  h.kept (row := none) ⟨he.os, he.tape, he.output, he.size, fun k hk _ => he.block k hk⟩ (by cases v.ownBlock <;> simp)
/-- What Decode hands back: the records of an interval, in a row of their own, or the error, where there are none. -/
def DecOut (size : Int) (d : List UInt8) (w : World) (e : Ending) (w' : World) : Prop :=
  Ext w w' ∧ ((∃ p cap L, e = .returned (.tuple #[.slice p L.length cap, .int .i64 0]) ∧ Strs w' p L ∧ Small L ∧ Enc size L d ∧ L.length ≤ cap ∧ cap ≤ maxLen ∧ w'.ownsRow w.heap.size 9 1 (.slice p L.length cap) L.length (L.map fun s => .string ⟨s.toArray⟩)) ∨
    (e = .returned (.tuple #[.slice none 0 0, .int .i64 (decErr size d)]) ∧ ∀ L, ¬ Enc size L d))
theorem decOut_no {size : Int} {d : List UInt8} {w w' : World} {c : Int} (h : Ext w w') (hc : c = decErr size d) (hn : ∀ L, ¬ Enc size L d) : DecOut size d w (.returned (.tuple #[.slice none 0 0, .int .i64 c])) w' := by
  subst hc; exact ⟨h, .inr ⟨rfl, hn⟩⟩

set_option maxRecDepth 100000 in
set_option maxHeartbeats 2000000 in
theorem Decode_ref_main (size : Nat) (h128 : 128 ≤ size) (h512 : size ≤ 512) (hsz : isSizeB size = true) (d : List UInt8) (hd : d.length = size) (hu : (d == List.replicate d.length 0) = false)
    (hlens : ∀ L, Enc size L d → lensL size d = L.map fun s => (s.length : Int)) (w : World) :
    Calls Tryd.prog 66 #[.int .i64 size, .string ⟨d.toArray⟩] w (DecOut size d w) := by
  have Hd := Lib.hid hd
  have Hl := Lib.hid hlens
  have hR := length_lensL d size (by omega) h512
  have hlen := lengths_any size h128 h512 d hd
  have hRle := lensL_le d size
  generalize hRR : lensL size d = R at *
  have HRle := Lib.hid hRle
  clear hRle
  have HR := Lib.hid hRR
  have Hlen := Lib.hid hlen
  have hE : Hid (decErr size d = 11) := Lib.hid (by unfold decErr; rw [hsz, hu, hd]; simp)
  have hun := Unused_ref d (by omega)
  rw [hu] at hun
  have Hun := Lib.hid hun
  have hnq : ((d.length : Int) != (size : Int)) = false := by simp [hd]
  clear hlen hRR hlens hd hun hu
  go_enter Tryd.func66, Tryd.ntmps66
  go_wp2_with (first | (go_at_call 67; refine (IsSize_any _ _).mono ?_; rintro e w' ⟨rfl, rfl⟩) | (go_at_call 80; refine (Hun.out _).mono ?_; rintro e w1 ⟨rfl, he1⟩) | (go_at_call 81; refine (Hlen.out _).mono ?_; rintro e w2 ⟨p, cap, rfl, hcs, he2⟩))
  obtain ⟨B, hB⟩ : ∃ B, B = w2.heap.size := ⟨_, rfl⟩
  have HB := Lib.hid hB
  clear hB
  have hcs' := Lib.hid hcs
  have hdl : d.length ≤ 1000000 := by have := Hd.out; omega
  have hds : size ≤ d.length := by rw [Hd.out]; exact Nat.le_refl _
  clear hcs
  go_loopw [7, 8, 9] (fun v s i wr => ∃ (k a : Nat) (out : List (List UInt8)), k ≤ R.length ∧ i = .int .i64 k ∧ s = .int .i64 a ∧ a ≤ size ∧ out.length = k ∧ out.flatten = d.take a ∧ (out.map fun s => (s.length : Int)) = R.take k ∧ (∀ s ∈ out, s.length ≤ 1000000) ∧
      wr.ownsRow B 9 1 v out.length (out.map fun s => .string ⟨s.toArray⟩) ∧ Below B w2 wr ∧ B ≤ wr.heap.size) (fun _ _ i _ => R.length - (intOf i).toNat)
  case atStart => exact ⟨0, 0, [], by omega, rfl, rfl, by omega, rfl, by simp, by simp, by simp, World.ownsRow_made w2 #[] 0 (by rw [HB.out]; exact Nat.le_refl _) (by simp) rfl, (Below.refl _ _).alloc (by rw [HB.out]; exact Nat.le_refl _) _, by rw [HB.out]; simp⟩
  case round =>
    obtain ⟨k, a, out, hk, rfl, rfl, ha, hol, hfl, hml, hsm, hown, hbel, hbs⟩ := hrel
    have hal : out.flatten.length = a := by rw [hfl, List.length_take]; omega
    have Hol := Lib.hid hol
    have Hfl := Lib.hid hfl
    have Hml := Lib.hid hml
    have Hsm := Lib.hid hsm
    have Hal := Lib.hid hal
    clear hol hfl hml hsm hal
    have hext : ∀ {W : World}, Ext wr W → Ext w W := fun hW => (he1.trans he2).trans (Ext.trans (show Ext w2 wr by unfold Ext; rw [← HB.out]; exact hbel) hW)
    have Hext : ∀ {W : World}, Hid (Ext wr W → Ext w W) := fun {W} => Lib.hid (hext (W := W))
    clear hext
    by_cases hlt : k < R.length
    · obtain ⟨b, off, rfl, hb, hc⟩ := hcs'.out.at k (by simpa using hlt)
      have hck := hc k (by simpa using hlt)
      rw [getD_ints R k hlt] at hck
      have hck2 := (hbel.cell (p := ⟨b, off + k, none⟩) (by rw [HB.out]; exact hb)).trans hck
      have HST : Hid (∀ L, Enc size L d → 0 ≤ R.getD k 0 ∧ (a : Int) + R.getD k 0 ≤ size) := Lib.hid fun L hL => enc_step hL (Hl.out L hL) hlt Hml.out Hal.out
      have Hrt : Hid (R.take (k + 1) = R.take k ++ [R.getD k 0]) := Lib.hid (by rw [List.take_succ_eq_append_getElem hlt]; simp [List.getD, hlt])
      have hrle := HRle.out k
      clear hc hck
      generalize R.getD k 0 = r at *
      have hbB : b < B := by rw [HB.out]; exact hb
      by_cases hr : r < 0
      · go_wp2
        go_ret2
        exact decOut_no (Hext.out (Ext.refl _)) hE.out.symm (fun L hL => by have := HST.out L hL; omega)
      · by_cases hr2 : (size : Int) < a + r
        · obtain ⟨r, rfl⟩ := Int.eq_ofNat_of_zero_le (show 0 ≤ r by omega)
          go_wp2
          go_ret2
          exact decOut_no (Hext.out (Ext.refl _)) hE.out.symm (fun L hL => by have := HST.out L hL; omega)
        · obtain ⟨r, rfl⟩ := Int.eq_ofNat_of_zero_le (show 0 ≤ r by omega)
          clear HST
          go_wp2_with (first | (at_builtin; go_must (refine wpList_app rfl (.tmp 49) (.tmp 59) 24 9 rfl B (.string ByteArray.empty) 1 16 Tryd.underlying24 infoStr rfl (by decide) _ _ _ rfl (hown.alloc _) _ [.string _] rfl (Blk.new wr _) rfl (by intro u hu; simp at hu; subst hu; rfl) (by have := Hol.out; omega) (by decide) (by simp; omega) ?_; intro v' w1 hown1 hgr1; have hb1 := Below.of_grown (B := B) hgr1 (hown.alloc _) (Nat.le_refl _) (by simp; omega); have hs1 := hgr1.size; have hb2 : Below B wr w1 := ((Below.refl _ _).alloc hbs _).trans hb1; have hck3 := (hb2.cell (p := ⟨b, off + k, none⟩) hbB).trans hck2; simp at hs1; clear hgr1 hb1)))
          go_roundw
          case rel => exact ⟨k + 1, a + r, out ++ [(d.drop a).take r], by omega, by go_num, by go_num, by omega, by simp [Hol.out], by rw [List.flatten_append, Hfl.out]; simp [List.take_add], by rw [List.map_append, Hml.out, Hrt.out]; simp; omega, by intro s hs; rw [List.mem_append] at hs; rcases hs with hs | hs; exact Hsm.out s hs; simp at hs; subst hs; simp; omega, by simpa using hown1, hbel.trans hb2, by omega⟩
          case measure => simp [intOf]; omega
    · have hml' : (out.map fun s => (s.length : Int)) = R := by have := Hml.out; rwa [List.take_of_length_le (by omega)] at this
      have HEQ : Hid (∀ L, Enc size L d → out = L) := Lib.hid fun L hL => enc_out hL (Hl.out L hL) hml' Hfl.out Hal.out
      clear hml'
      obtain ⟨q, cq, rfl, hsq, hcq1, hcq2⟩ := own_strs2 hown
      have Hown := Lib.hid (own_le hown (show w.heap.size ≤ B by rw [HB.out]; exact (he1.trans he2).size))
      have Hsq := Lib.hid hsq
      have HSM : Hid (Small out) := Lib.hid ⟨by have := Hol.out; omega, Hsm.out⟩
      clear hsq hown
      by_cases h1 : encErr size out = 0
      · have h1' : ((encErr size out) != 0) = false := by simp [h1]
        by_cases h2 : encStr size out = d
        · have h2' : (encStr size out == d) = true := by simp [h2]
          have HOK : Hid (Enc size out d) := Lib.hid ⟨h1, h2⟩
          have hen := Encode_ref q cq out.length out size
          generalize encErr size out = ee at *
          generalize encStr size out = es at *
          have Hen := Lib.hid hen
          clear hen h1 h2
          go_wp2_with (first | (go_at_call 43; refine (Hen.out _ Hsq.out rfl HSM.out).mono ?_; rintro e w3 ⟨rfl, he3⟩))
          go_ret2
          exact ⟨Hext.out he3, .inl ⟨q, cq, out, rfl, Hsq.out.ext he3, HSM.out, HOK.out, hcq1, hcq2, own_extR Hown.out he3⟩⟩
        · have h2' : (encStr size out == d) = false := by simp [h2]
          have HNO : Hid (∀ L, ¬ Enc size L d) := Lib.hid fun L hL => by have := HEQ.out L hL; subst this; exact h2 hL.2
          have hen := Encode_ref q cq out.length out size
          generalize encErr size out = ee at *
          generalize encStr size out = es at *
          have Hen := Lib.hid hen
          clear hen h1 h2
          go_wp2_with (first | (go_at_call 43; refine (Hen.out _ Hsq.out rfl HSM.out).mono ?_; rintro e w3 ⟨rfl, he3⟩))
          go_ret2
          exact decOut_no (Hext.out he3) hE.out.symm HNO.out
      · have h1' : ((encErr size out) != 0) = true := by simp [h1]
        have HNO : Hid (∀ L, ¬ Enc size L d) := Lib.hid fun L hL => by have := HEQ.out L hL; subst this; exact h1 hL.1
        have hen := Encode_ref q cq out.length out size
        generalize encErr size out = ee at *
        generalize encStr size out = es at *
        have Hen := Lib.hid hen
        clear hen h1
        go_wp2_with (first | (go_at_call 43; refine (Hen.out _ Hsq.out rfl HSM.out).mono ?_; rintro e w3 ⟨rfl, he3⟩))
        go_ret2
        exact decOut_no (Hext.out he3) hE.out.symm HNO.out

theorem enc_not_size {size : Int} {d : List UInt8} (h : isSizeB size = false) (L : List (List UInt8)) : ¬ Enc size L d := fun hL => by
  have := (encErr_zero hL.1).1; rw [h] at this; cases this

set_option maxRecDepth 100000 in
/-- Decode, for any bytes. -/
theorem Decode_ref (size : Int) (d : List UInt8) (hd : d.length ≤ 1000000) (w : World) :
    Calls Tryd.prog 66 #[.int .i64 size, .string ⟨d.toArray⟩] w (DecOut size d w) := by
  by_cases h1 : isSizeB size = true
  · obtain ⟨n, rfl, hn⟩ := isSize_nat h1
    by_cases h2 : d.length = n
    · by_cases h3 : (d == List.replicate d.length 0) = true
      · have HE : Hid (decErr n d = 9) := Lib.hid (by unfold decErr; rw [h1, h3, h2]; simp)
        have HN : Hid (∀ L, ¬ Enc n L d) := Lib.hid fun L hL => by have := enc_used (by omega) (by omega) hL; rw [h3] at this; cases this
        have hun := Unused_ref d hd
        rw [h3] at hun
        have Hun := Lib.hid hun
        have hnq : ((d.length : Int) != (n : Int)) = false := by simp [h2]
        clear hun h3 h2
        go_enter Tryd.func66, Tryd.ntmps66
        go_wp2_with (first | (go_at_call 67; refine (IsSize_any _ _).mono ?_; rintro e w' ⟨rfl, rfl⟩) | (go_at_call 80; refine (Hun.out _).mono ?_; rintro e w1 ⟨rfl, he1⟩))
        go_ret2
        exact decOut_no he1 HE.out.symm HN.out
      · exact Decode_ref_main n (by omega) (by omega) h1 d h2 (by simpa using h3) (fun L hL => lens_enc (by omega) hL) w
    · have HE : Hid (decErr n d = 11) := Lib.hid (by unfold decErr; rw [h1, if_neg (by simp), if_pos (by omega)])
      have HN : Hid (∀ L, ¬ Enc n L d) := Lib.hid fun L hL => by have := enc_length hL; omega
      have hnq : ((d.length : Int) != (n : Int)) = true := by simp; omega
      clear h2
      go_enter Tryd.func66, Tryd.ntmps66
      go_wp2_with (first | (go_at_call 67; refine (IsSize_any _ _).mono ?_; rintro e w' ⟨rfl, rfl⟩))
      go_ret2
      exact decOut_no (Ext.refl _) HE.out.symm HN.out
  · have h1' : isSizeB size = false := by simpa using h1
    have HE : Hid (decErr size d = 1) := Lib.hid (by unfold decErr; rw [if_pos h1'])
    have HN : Hid (∀ L, ¬ Enc size L d) := Lib.hid (enc_not_size h1')
    clear h1
    go_enter Tryd.func66, Tryd.ntmps66
    go_wp2_with (first | (go_at_call 67; refine (IsSize_any _ _).mono ?_; rintro e w' ⟨rfl, rfl⟩))
    go_ret2
    exact decOut_no (Ext.refl _) HE.out.symm HN.out
end Go.Proofs.YtkhlglkipeoalaaDoor
