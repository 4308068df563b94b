/- The walk of the law's awake. -/
import Derived.Test.YtmnpappbacndlaaGreatDoorSF
set_option linter.unusedSimpArgs false
set_option linter.unusedVariables false
namespace Dsd
open Go Go.RowKit
def exL (j : Nat) : List SW := (List.range j).map fun (i : Nat) => ((i : Int), [])
theorem exL_len (j : Nat) : (exL j).length = j := by simp [exL]
theorem exL_next (j : Nat) : exL (j + 1) = exL j ++ [((j : Int), [])] := by simp [exL, List.range_succ]
def exS : List (List SW) := joinH (hdL (exL 130) 130) (chunks (rsL (exL 130) 130))
set_option maxRecDepth 100000 in
theorem exS_is : exS.length = 3 ∧ (exS.getD 0 []).length = 64 ∧ (swAt (exS.getD 0 []) 0).1 = 1 ∧ (exS.getD 1 []).length = 64 ∧ (exS.getD 2 []).length = 2 ∧ (swAt (exS.getD 2 []) 0).1 = 0 ∧ (swAt (exS.getD 2 []) 1).1 = 129 := by decide
end Dsd
namespace Go.Proofs.YtmnpappbacndlaaGreatDoor
open Go Go.RowKit Dsd
theorem dsBuiltR : Tryz.prog.built 31 [(0, .int .i64 9), (1, .int .i64 2), (7, .int .i64 128), (3, .int .i64 40)] = some #[.int .i64 exR.id, .int .i64 exR.org, .int .i64 exR.format, .int .i64 exR.length, .int .i64 exR.block, .int .i64 exR.keyAt, .int .i64 exR.keyLength, .int .i64 exR.interval, .int .i64 exR.area, .int .i64 exR.freeInterval, .int .i64 exR.freeArea, .int .i64 exR.base, .int .i64 exR.altAt, .int .i64 exR.altLength, .bool exR.unique, .int .i64 exR.cls, .string ⟨exR.volume.toArray⟩, .string ⟨exR.owner.toArray⟩, .int .i64 exR.created, .int .i64 exR.expires, .bool exR.archived] := by kernel_rfl
theorem swBuilt (i : Nat) : Tryz.prog.built 25 [(0, .int .i64 (i : Int))] = some #[.int .i64 (i : Int), .string ⟨#[]⟩] := by kernel_rfl
/-- A row that is not empty: where it lies, and its first cells. -/
theorem swv_at {E : TypeId} {w : World} {v : Value} {L : List SW} (h : SwV E w v L) (hp : 0 < L.length) : ∃ b o c, v = .slice (some ⟨b, o, none⟩) L.length c ∧ L.length ≤ c ∧ c ≤ maxLen ∧ b < w.heap.size ∧ ∀ i, i < L.length → w.cell? ⟨b, o + i * 2, none⟩ = some (.int .i64 (swAt L i).1) ∧ w.cell? ⟨b, o + i * 2 + 1, none⟩ = some (.string ⟨(swAt L i).2.toArray⟩) := by
  obtain ⟨q, c, rfl, h2, h3, h4, _⟩ := h
  obtain ⟨b, o, rfl, hb, hc⟩ := swc_at h2 0 hp
  exact ⟨b, o, c, rfl, h3, h4, hb, hc⟩
/-- Three lists in memory. -/
theorem row3 {w : World} {B : Nat} {v : Value} {vs : List Value} (ho : w.ownsRow B 22 1 v exS.length vs) (hv : SwVs 25 w vs exS) :
    ∃ g c b0 o0 k0 b1 o1 k1 b2 o2 k2, v = .slice (some ⟨g, 0, none⟩) 3 c ∧ 3 ≤ c ∧ c ≤ maxLen ∧ 64 ≤ k0 ∧ k0 ≤ maxLen ∧ 64 ≤ k1 ∧ k1 ≤ maxLen ∧ 2 ≤ k2 ∧ k2 ≤ maxLen ∧ ∀ w', Ext w w' → w'.cell? ⟨g, 0, none⟩ = some (.slice (some ⟨b0, o0, none⟩) 64 k0) ∧ w'.cell? ⟨g, 1, none⟩ = some (.slice (some ⟨b1, o1, none⟩) 64 k1) ∧ w'.cell? ⟨g, 2, none⟩ = some (.slice (some ⟨b2, o2, none⟩) 2 k2)
      ∧ w'.cell? ⟨b0, o0, none⟩ = some (.int .i64 1) ∧ w'.cell? ⟨b2, o2, none⟩ = some (.int .i64 0) ∧ w'.cell? ⟨b2, o2 + 2, none⟩ = some (.int .i64 129) := by
  obtain ⟨e1, e2, e3, e4, e5, e6, e7⟩ := exS_is
  rw [e1] at ho
  obtain ⟨q, c, rfl⟩ := own_slice ho
  obtain ⟨g, rfl⟩ := own_ptr ho (by omega)
  obtain ⟨hc, h1, h2⟩ := own_cellsS ho
  have hl : vs.length = 3 := hv.1.trans e1
  obtain ⟨b9, o9, hp, hg, h3⟩ := hc.at 0 (by omega)
  simp only [Option.some.injEq, Addr.mk.injEq, and_true] at hp
  obtain ⟨rfl, rfl⟩ := hp
  have v0 := hv.2 0 (by omega)
  have v1 := hv.2 1 (by omega)
  have v2 := hv.2 2 (by omega)
  obtain ⟨b0, o0, k0, q0, l0, m0, n0, r0⟩ := swv_at v0 (by omega)
  obtain ⟨b1, o1, k1, q1, l1, m1, n1, r1⟩ := swv_at v1 (by omega)
  obtain ⟨b2, o2, k2, q2, l2, m2, n2, r2⟩ := swv_at v2 (by omega)
  have c0 := h3 0 (by omega)
  have c1 := h3 1 (by omega)
  have c2 := h3 2 (by omega)
  rw [q0, e2] at c0
  rw [q1, e4] at c1
  rw [q2, e5] at c2
  have d0 := (r0 0 (by omega)).1
  have d1 := (r2 0 (by omega)).1
  have d2 := (r2 1 (by omega)).1
  rw [e3] at d0
  rw [e6] at d1
  rw [e7] at d2
  refine ⟨g, c, b0, o0, k0, b1, o1, k1, b2, o2, k2, rfl, h1, h2, by omega, m0, by omega, m1, by omega, m2, fun w' he => ⟨?_, ?_, ?_, ?_, ?_, ?_⟩⟩
  · exact (he.cell g 0 hg).trans (by simpa using c0)
  · exact (he.cell g 1 hg).trans (by simpa using c1)
  · exact (he.cell g 2 hg).trans (by simpa using c2)
  · exact (he.cell b0 o0 n0).trans (by simpa using d0)
  · exact (he.cell b2 o2 n2).trans (by simpa using d1)
  · exact (he.cell b2 (o2 + 2) n2).trans (by simpa using d2)
theorem ds_one (d : DS) : (#[.int .i64 d.id, .int .i64 d.org, .int .i64 d.format, .int .i64 d.length, .int .i64 d.block, .int .i64 d.keyAt, .int .i64 d.keyLength, .int .i64 d.interval, .int .i64 d.area, .int .i64 d.freeInterval, .int .i64 d.freeArea, .int .i64 d.base, .int .i64 d.altAt, .int .i64 d.altLength, .bool d.unique, .int .i64 d.cls, .string ⟨d.volume.toArray⟩, .string ⟨d.owner.toArray⟩, .int .i64 d.created, .int .i64 d.expires, .bool d.archived] : Array Value).all (·.oneCell') = true := by simp [Value.oneCell']
set_option maxRecDepth 100000 in
set_option maxHeartbeats 4000000 in
theorem awake_any (w : World) : Calls Tryz.prog 4 #[] w fun e w' => e = .returned (.bool true) ∧ Ext w w' := by
  have HS := Lib.hid (fun p cap L W => StepsP_any p cap 130 L W)
  have HR := Lib.hid Rebuild_ex
  go_enter Tryz.func4, Tryz.ntmps4
  go_upto_region 3 with fail
  have Hf0 := Lib.hid (World.ownsRow_made (e := 25) (base := w.heap.size) (size := 2) w #[] 0 (Nat.le_refl _) (by simp) rfl)
  go_loopw [1, 2] (fun l i wr => ∃ j : Nat, j ≤ 130 ∧ i = .int .i64 j ∧ Ext w wr ∧ wr.ownsRow w.heap.size 25 2 l j (swC (exL j)) ∧ ∃ q c, l = .slice q j c) (fun _ i _ => 130 - (intOf i).toNat)
  case atStart => exact ⟨0, by omega, rfl, Ext.alloc _ _, Hf0.out, _, _, rfl⟩
  case round =>
    obtain ⟨j, hj, rfl, he, ho, q, c, rfl⟩ := hrel
    have HE := Lib.hid he
    have HO := Lib.hid ho
    have hwz := he.size
    clear he ho
    by_cases hlt : j < 130
    · have hltI : (j : Int) < 130 := by omega
      have HO2 := Lib.hid (own_ext HO.out (Ext.alloc wr (.cells #[.int .i64 (j : Int), .string ⟨#[]⟩] 25)))
      go_wp2_with (first
        | (refine wpList_bld rfl 25 #[(0, .tmp 13)] rfl [(0, .int .i64 (j : Int))] rfl _ (swBuilt j) ?_)
        | (at_builtin; go_must (refine wpList_appB (by rfl) (.tmp 12) (.tmp 15) 22 25 rfl w.heap.size (.agg #[.int .i64 0, .string ByteArray.empty]) 2 24 Tryz.underlying22 infoSW rfl (by decide) _ j _ rfl HO2.out ⟨wr.heap.size, 0, none⟩ 1 1 (swC [((j : Int), [])]) rfl rfl (cells_blk (Blk.new wr _)) (swC_one _) (by omega) (by decide) (by simp; omega) ?_; intro v8 w8 ho8 hg8 hb8)))
      obtain ⟨q8, c8, rfl⟩ := own_slice ho8
      have HO8 := Lib.hid ho8
      have HE8 := Lib.hid ((HE.out.trans (Ext.alloc wr (.cells #[.int .i64 (j : Int), .string ⟨#[]⟩] 25))).trans' (Below.of_grown hg8 HO2.out (Nat.le_refl _) (by simp; omega)))
      clear ho8 hg8 hb8
      go_roundw
      case rel => exact ⟨j + 1, by omega, by go_num, HE8.out, by rw [exL_next, swC_app]; exact HO8.out, _, _, rfl⟩
      case measure => simp [intOf]; omega
    · have hltI : decide ((j : Int) < 130) = false := decide_eq_false (by omega)
      obtain rfl : j = 130 := by omega
      have HC := Lib.hid (own_cellsS HO.out)
      go_upto_region 7 with (go_at_call 5; refine (HS.out q c (exL 130) _ HC.out.1 (exL_len 130) (by omega)).mono ?_; rintro e w4 ⟨he4, v4, vs, rfl, ho4, hv4⟩)
      have HE4 := Lib.hid (HE.out.trans he4)
      obtain ⟨g, k, b0, o0, k0, b1, o1, k1, b2, o2, k2, rfl, hk1, hk2, a1, a2, a3, a4, a5, a6, H3⟩ := row3 ho4 hv4
      have HC3 := Lib.hid H3
      clear H3 ho4 hv4 he4
      go_upto_region 8 with (first
        | (refine wpList_bld rfl 31 #[(0, .const (.int .i64 9)), (1, .const (.int .i64 2)), (7, .const (.int .i64 128)), (3, .const (.int .i64 40))] rfl [(0, .int .i64 9), (1, .int .i64 2), (7, .int .i64 128), (3, .int .i64 40)] rfl _ dsBuiltR ?_)
        | (refine wpList_put rfl 31 (.tmp 4) (.tmp 19) rfl _ #[.int .i64 exR.id, .int .i64 exR.org, .int .i64 exR.format, .int .i64 exR.length, .int .i64 exR.block, .int .i64 exR.keyAt, .int .i64 exR.keyLength, .int .i64 exR.interval, .int .i64 exR.area, .int .i64 exR.freeInterval, .int .i64 exR.freeArea, .int .i64 exR.base, .int .i64 exR.altAt, .int .i64 exR.altLength, .bool exR.unique, .int .i64 exR.cls, .string ⟨exR.volume.toArray⟩, .string ⟨exR.owner.toArray⟩, .int .i64 exR.created, .int .i64 exR.expires, .bool exR.archived] rfl rfl _ _ (Blk.new w4 _) dsSize rfl (ds_one exR) ?_; intro w5 hd5 hc5))
      have HE5 := Lib.hid (hc5.ext (Ext.alloc w4 _) (Nat.le_refl _))
      have hds : DsAt w5 w4.heap.size exR := hd5
      clear hc5 hd5
      go_wp2_with (first
        | (refine wpList_ds rfl (.tmp 4) rfl _ rfl exR hds ?_)
        | (go_at_call 8; refine (HR.out _).mono ?_; rintro e w6 ⟨he6, v6, s6, hs6, rfl, ho6⟩; obtain ⟨q6, d6, rfl⟩ := own_slice ho6; obtain ⟨g6, rfl⟩ := own_ptr ho6 (by omega); have HE6 := Lib.hid (HE5.out.trans he6); obtain ⟨c0, c1, c2, c3, c4, c5⟩ := HC3.out _ HE6.out; obtain ⟨d1, d2⟩ := (own_cellsS ho6).2; have c6 : w6.cell? ⟨g6, 1, none⟩ = some (.string ⟨s6.toArray⟩) := by obtain ⟨b, o, h1, h2, h3⟩ := swc_at (own_cellsS ho6).1 0 (by simp); simp only [Option.some.injEq, Addr.mk.injEq, and_true] at h1; obtain ⟨rfl, rfl⟩ := h1; simpa [swAt] using (h3 0 (by simp)).2))
      go_ret
      exact ⟨rfl, HE4.out.trans HE6.out⟩
end Go.Proofs.YtmnpappbacndlaaGreatDoor
