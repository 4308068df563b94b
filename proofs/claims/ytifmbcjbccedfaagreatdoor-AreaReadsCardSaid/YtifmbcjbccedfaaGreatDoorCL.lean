/- A part of the proof. -/
import Derived.Test.YtifmbcjbccedfaaGreatDoorAZ
import Derived.Test.YtifmbcjbccedfaaGreatDoorBN
import Derived.Test.YtifmbcjbccedfaaGreatDoorDD

set_option linter.unusedSimpArgs false
set_option linter.unusedVariables false
namespace Dsd
def pairsG (d : DS) (a : Ar) : List (List UInt8 × List UInt8) := if areaB d a = true then pairsD d (recsOf a) else []
end Dsd
namespace Go.Proofs.YtifmbcjbccedfaaGreatDoor
open Go.RowKit Dsd
set_option maxRecDepth 100000 in
set_option maxHeartbeats 1000000 in
theorem PairsW_any (d : DS) (a : Ar) (q : Option Addr) (c : Nat) (p : Option Addr) (m : Nat) (w : World) (hB : areaB d a = true) (hv : ArW w a q c p m) (h1 : a.nd.ents.length ≤ 1000000) (h2 : a.ivs.length ≤ 1000000) (h3 : ∀ i, Small (a.ivs.getD i [])) :
   Calls Tryz.prog 13 #[.agg #[.int .i64 d.id, .int .i64 d.org, .int .i64 d.format, .int .i64 d.length, .int .i64 d.block, .int .i64 d.keyAt, .int .i64 d.keyLength, .int .i64 d.interval, .int .i64 d.area, .int .i64 d.freeInterval, .int .i64 d.freeArea, .int .i64 d.base, .int .i64 d.altAt, .int .i64 d.altLength, .bool d.unique, .int .i64 d.cls, .string ⟨d.volume.toArray⟩, .string ⟨d.owner.toArray⟩, .int .i64 d.created, .int .i64 d.expires, .bool d.archived], .agg (arC a q c p m)] w fun e w' => Ext w w' ∧ ∃ v, e = .returned v ∧ w'.ownsRow w.heap.size 65 2 v (recsOf a).length (prCells (pairsD d (recsOf a))) := by
 have s : ASpec d a := area_iff.1 hB
 have HV := Lib.hid (fun W (e : Ext w W) => ValidG_anyW d a q c p m W (hv.ext e) h1 h2 h3)
 rw [hB] at HV
 obtain ⟨n1, n2, n3, n4, n5⟩ := inv_small s
 have hL : ∀ i, (a.ivs.getD i []).length ≤ 1000 := fun i => by
   by_cases hi : i < a.ivs.length
   · have := (fits_small (s.iv hi).1).1; omega
   · simp [List.getD, List.getElem?_eq_none (show a.ivs.length ≤ i by omega)]
 have HC := Lib.hid (fun W (e : Ext w W) => Concat_any p m a.ivs W (hv.ivs.ext e) n2 hL)
 have hlen : (recsOf a).length ≤ 120000 := by
   have h1 := lensTo_flat a.ivs a.ivs.length
   rw [List.take_length] at h1
   have h2 := lensTo_mono (m := 1000) hL (Nat.le_refl a.ivs.length)
   have h3 : a.ivs.length * 1000 ≤ 120 * 1000 := Nat.mul_le_mul_right _ (by omega)
   unfold recsOf; omega
 have HRec : Hid (∀ i, i < (recsOf a).length → recB d ((recsOf a).getD i []) = true) := Lib.hid (fun i hi => by
   have hm := getD_mem hi
   unfold recsOf at hm
   obtain ⟨L, hL, hs⟩ := List.mem_flatten.1 hm
   exact (ivs_mem s.ivs L hL).2.1 _ hs)
 have Hk := Lib.hid s.keyed
 have HF : Hid (a.ivs.flatten = recsOf a) := Lib.hid rfl
 rw [HF.out] at HC
 clear s hv hL n1 n2 n3 n4 n5 HF h1 h2 h3 hB
 generalize recsOf a = R at *
 go_enter Tryz.func13, Tryz.ntmps13
 go_upto_region 1 with (fail)
 refine wp_name (fun w0 => Ext w w0 ∧ DsAt w0 w.heap.size d ∧ ArAt w0 (w.heap.size + 1) a q c p m) (ds_ar w d a q c p m) ?_
 rintro w0 ⟨he0, hd0, ha0⟩
 go_upto_region 5 with (first
   | (refine wpList_ds (o := ⟨some 8, _, _, _, _, _⟩) rfl (.tmp 2) rfl _ rfl d hd0 ?_)
   | (refine wpList_row (o := ⟨some 9, _, _, _, _, _⟩) rfl 29 (.tmp 3) rfl _ rfl _ _ _ ha0 arDesc rfl arSize ?_)
   | (go_at_call 10; refine (HV.out _ he0).mono ?_; rintro e w1 ⟨rfl, he1⟩; have ha1 := ha0.ext he1; obtain ⟨_, _, _, _, x4, lx⟩ := ha1.cells)
   | (go_at_call 44; refine (HC.out _ (he0.trans he1)).mono ?_; rintro e w2 ⟨v2, rfl, ho2, he2⟩; obtain ⟨q2, c2, rfl⟩ := own_slice ho2))
 have Hd2 := Lib.hid ((hd0.ext he1).ext he2)
 have Hx2 := Lib.hid ((he0.trans he1).trans he2)
 have Hs2 := Lib.hid (own_strs3 ho2)
 clear hd0 ha0 he0 he1 he2 ho2 ha1 x4 lx HC HV
 go_loopw [5, 16] (fun out i wx => ∃ k : Nat, k ≤ R.length ∧ i = .int .i64 k ∧ wx.ownsRow w2.heap.size 65 2 out k (prCells (pairsD d (R.take k))) ∧ Ext w2 wx) (fun _ i _ => R.length - (intOf i).toNat)
 case atStart => exact ⟨0, Nat.zero_le _, rfl, World.ownsRow_nil _ _ _ _, Ext.refl _⟩
 case round =>
   obtain ⟨k, hk, rfl, hown, hex⟩ := hrel
   by_cases hlt : k < R.length
   · have hltI : (k : Int) < R.length := by omega
     obtain ⟨b, off, rfl, hb, hc⟩ := (Hs2.out.ext hex).at k hlt
     have hck := hc k hlt
     have hrec := HRec.out k hlt
     have HT := Lib.hid (pairs_take (d := d) hlt)
     have Hown := Lib.hid hown
     have Hex := Lib.hid hex
     have hdr := Hd2.out.ext hex
     generalize R.getD k [] = x at hck hrec HT
     have HK := Lib.hid (keyOf_any d x Hk.out hrec)
     generalize keyD d x = kx at HT HK
     have hwz := Hex.out.size
     clear hc hown hex hrec
     go_wp2_with (first
       | (refine wpList_ds (o := ⟨some 21, _, _, _, _, _⟩) rfl (.tmp 2) rfl _ rfl d hdr ?_)
       | (go_at_call 40; refine (HK.out _).mono ?_; rintro e w3 ⟨rfl, he3⟩)
       | (at_builtin; refine wpList_appk (o := ⟨some 27, _, _, _, _, _⟩) rfl (.tmp 20) (.tmp 26) 41 65 rfl w2.heap.size (.agg #[.string ByteArray.empty, .string ByteArray.empty]) 2 32 Tryz.underlying41 infoPairA rfl (by decide) _ k _ rfl (own_ext Hown.out (he3.trans (Ext.alloc _ _))) (some ⟨w3.heap.size, 0, none⟩) 1 1 [.string ⟨kx.toArray⟩, .string ⟨x.toArray⟩] rfl rfl rfl (blk_cells (ys := [.string ⟨kx.toArray⟩, .string ⟨x.toArray⟩]) (Blk.new w3 _)) (by intro u hu; simp at hu; rcases hu with rfl | rfl <;> rfl) (by omega) (by decide) (by have := he3.size; simp; omega) ?_; intro v8 w8 ho8 hg8))
     have hoA := own_ext Hown.out (he3.trans (Ext.alloc w3 (.cells [.string ⟨kx.toArray⟩, .string ⟨x.toArray⟩].toArray 65)))
     have hbx := Below.of_grown hg8 hoA (Nat.le_refl _) (by have := he3.size; simp; omega)
     have ho9 := Lib.hid (show w8.ownsRow w2.heap.size 65 2 v8 (k + 1) (prCells (pairsD d (R.take (k + 1)))) by rw [HT.out]; exact ho8)
     have hx9 := Lib.hid (Ext.trans' ((Hex.out.trans he3).trans (Ext.alloc w3 (.cells [.string ⟨kx.toArray⟩, .string ⟨x.toArray⟩].toArray 65))) hbx)
     go_roundw
     case rel => exact ⟨k + 1, by omega, by go_num, ho9.out, hx9.out⟩
     case measure => simp [intOf]; omega
   · have hltI : decide ((k : Int) < R.length) = false := by simp; omega
     have hkn : k = R.length := by omega
     subst hkn
     rw [List.take_length] at hown
     go_wp2
     go_ret
     exact ⟨Hx2.out.trans hex, _, rfl, own_le hown Hx2.out.size⟩
set_option maxRecDepth 100000 in
theorem PairsN_any (d : DS) (a : Ar) (q : Option Addr) (c : Nat) (p : Option Addr) (m : Nat) (w : World) (hB : areaB d a = false) (hv : ArW w a q c p m) (h1 : a.nd.ents.length ≤ 1000000) (h2 : a.ivs.length ≤ 1000000) (h3 : ∀ i, Small (a.ivs.getD i [])) :
   Calls Tryz.prog 13 #[.agg #[.int .i64 d.id, .int .i64 d.org, .int .i64 d.format, .int .i64 d.length, .int .i64 d.block, .int .i64 d.keyAt, .int .i64 d.keyLength, .int .i64 d.interval, .int .i64 d.area, .int .i64 d.freeInterval, .int .i64 d.freeArea, .int .i64 d.base, .int .i64 d.altAt, .int .i64 d.altLength, .bool d.unique, .int .i64 d.cls, .string ⟨d.volume.toArray⟩, .string ⟨d.owner.toArray⟩, .int .i64 d.created, .int .i64 d.expires, .bool d.archived], .agg (arC a q c p m)] w fun e w' => Ext w w' ∧ e = .returned (.slice none 0 0) := by
 have HV := Lib.hid (fun W (e : Ext w W) => ValidG_anyW d a q c p m W (hv.ext e) h1 h2 h3)
 rw [hB] at HV
 clear hv h1 h2 h3 hB
 go_enter Tryz.func13, Tryz.ntmps13
 go_upto_region 1 with (fail)
 refine wp_name (fun w0 => Ext w w0 ∧ DsAt w0 w.heap.size d ∧ ArAt w0 (w.heap.size + 1) a q c p m) (ds_ar w d a q c p m) ?_
 rintro w0 ⟨he0, hd0, ha0⟩
 go_wp2_with (first
   | (refine wpList_ds (o := ⟨some 8, _, _, _, _, _⟩) rfl (.tmp 2) rfl _ rfl d hd0 ?_)
   | (refine wpList_row (o := ⟨some 9, _, _, _, _, _⟩) rfl 29 (.tmp 3) rfl _ rfl _ _ _ ha0 arDesc rfl arSize ?_)
   | (go_at_call 10; refine (HV.out _ he0).mono ?_; rintro e w1 ⟨rfl, he1⟩))
 go_ret
 exact ⟨he0.trans he1, rfl⟩
theorem PairsG_any (d : DS) (a : Ar) (q : Option Addr) (c : Nat) (p : Option Addr) (m : Nat) (w : World) (hv : ArW w a q c p m) (h1 : a.nd.ents.length ≤ 1000000) (h2 : a.ivs.length ≤ 1000000) (h3 : ∀ i, Small (a.ivs.getD i [])) :
   Calls Tryz.prog 13 #[.agg #[.int .i64 d.id, .int .i64 d.org, .int .i64 d.format, .int .i64 d.length, .int .i64 d.block, .int .i64 d.keyAt, .int .i64 d.keyLength, .int .i64 d.interval, .int .i64 d.area, .int .i64 d.freeInterval, .int .i64 d.freeArea, .int .i64 d.base, .int .i64 d.altAt, .int .i64 d.altLength, .bool d.unique, .int .i64 d.cls, .string ⟨d.volume.toArray⟩, .string ⟨d.owner.toArray⟩, .int .i64 d.created, .int .i64 d.expires, .bool d.archived], .agg (arC a q c p m)] w fun e w' => Ext w w' ∧ ∃ v, e = .returned v ∧ w'.ownsRow w.heap.size 65 2 v (pairsG d a).length (prCells (pairsG d a)) := by
 unfold pairsG
 cases hB : areaB d a
 · rw [if_neg (by simp)]
   exact (PairsN_any d a q c p m w hB hv h1 h2 h3).mono (by rintro e w' ⟨h, rfl⟩; exact ⟨h, _, rfl, World.ownsRow_nil _ _ _ _⟩)
 · rw [if_pos rfl]
   refine (PairsW_any d a q c p m w hB hv h1 h2 h3).mono ?_
   rintro e w' ⟨h, v, rfl, ho⟩
   have e : (pairsD d (recsOf a)).length = (recsOf a).length := by unfold pairsD; rw [List.length_map]
   rw [e]
   exact ⟨h, v, rfl, ho⟩
theorem prBuiltL (x y : List UInt8) : Tryz.prog.built 65 [(0, .string ⟨x.toArray⟩), (1, .string ⟨y.toArray⟩)] = some #[.string ⟨x.toArray⟩, .string ⟨y.toArray⟩] := by kernel_rfl
set_option maxRecDepth 100000 in
set_option maxHeartbeats 2000000 in
theorem PairsR_any (d : DS) (a : Ar) (q : Option Addr) (c : Nat) (p : Option Addr) (m : Nat) (w : World) (hv : ArW w a q c p m) (h1 : a.nd.ents.length ≤ 1000000) (h2 : a.ivs.length ≤ 1000000) (h3 : ∀ i, Small (a.ivs.getD i [])) :
   Calls Tryz.prog 14 #[.agg #[.int .i64 d.id, .int .i64 d.org, .int .i64 d.format, .int .i64 d.length, .int .i64 d.block, .int .i64 d.keyAt, .int .i64 d.keyLength, .int .i64 d.interval, .int .i64 d.area, .int .i64 d.freeInterval, .int .i64 d.freeArea, .int .i64 d.base, .int .i64 d.altAt, .int .i64 d.altLength, .bool d.unique, .int .i64 d.cls, .string ⟨d.volume.toArray⟩, .string ⟨d.owner.toArray⟩, .int .i64 d.created, .int .i64 d.expires, .bool d.archived], .agg (arC a q c p m)] w fun e w' => Ext w w' ∧ ∃ v, e = .returned v ∧ w'.ownsRow w.heap.size 65 2 v (pairsG d a).length (prCells (pairsG d a)) := by
 have HV := Lib.hid (fun W (e : Ext w W) => ValidAR_anyW d a q c p m W (hv.ext e) h1 h2 h3)
 unfold pairsG
 cases hB : areaB d a
 · rw [if_neg (by simp)]
   rw [hB] at HV
   clear hv h1 h2 h3 hB
   go_enter Tryz.func14, Tryz.ntmps14
   go_upto_region 1 with (fail)
   refine wp_name (fun w0 => Ext w w0 ∧ DsAt w0 w.heap.size d ∧ ArAt w0 (w.heap.size + 1) a q c p m) (ds_ar w d a q c p m) ?_
   rintro w0 ⟨he0, hd0, ha0⟩
   go_upto_region 2 with (fail)
   have hm1 := World.ownsRow_made (base := w.heap.size) (e := 65) (size := 2) w0 #[] 0 he0.size (by simp) rfl
   refine wp_name (fun w1 => Ext w w1 ∧ DsAt w1 w.heap.size d ∧ ArAt w1 (w.heap.size + 1) a q c p m ∧ w1.ownsRow w.heap.size 65 2 (.slice (some ⟨w0.heap.size, 0, none⟩) 0 0) 0 []) ⟨he0.trans (Ext.alloc _ _), hd0.ext (Ext.alloc _ _), ha0.ext (Ext.alloc _ _), hm1⟩ ?_
   clear hm1
   rintro w1 ⟨he1, hd1, ha1, ho1⟩
   go_wp2_with (first
     | (refine wpList_ds (o := ⟨some 9, _, _, _, _, _⟩) rfl (.tmp 2) rfl _ rfl d hd1 ?_)
     | (refine wpList_row (o := ⟨some 10, _, _, _, _, _⟩) rfl 29 (.tmp 3) rfl _ rfl _ _ _ ha1 arDesc rfl arSize ?_)
     | (go_at_call 11; refine (HV.out _ he1).mono ?_; rintro e w2 ⟨rfl, he2⟩))
   go_ret
   exact ⟨he1.trans he2, _, rfl, own_ext ho1 he2⟩
 · rw [if_pos rfl]
   rw [hB] at HV
   have s : ASpec d a := area_iff.1 hB
   obtain ⟨n1, n2, n3, n4, n5⟩ := inv_small s
   have hL : ∀ i, (a.ivs.getD i []).length ≤ 1000 := fun i => by
     by_cases hi : i < a.ivs.length
     · have := (fits_small (s.iv hi).1).1; omega
     · simp [List.getD, List.getElem?_eq_none (show a.ivs.length ≤ i by omega)]
   have HT : Hid (∀ k, k ≤ a.ivs.length → lensTo a.ivs k ≤ 120000) := Lib.hid (fun k hk => by
     have := lensTo_mono (m := 1000) hL hk
     have h2 : k * 1000 ≤ 120 * 1000 := Nat.mul_le_mul_right _ (by omega)
     omega)
   have HRec : Hid (∀ i j, i < a.ivs.length → j < (a.ivs.getD i []).length → recB d ((a.ivs.getD i []).getD j []) = true) := Lib.hid (fun i j hi hj => by
     have hm : a.ivs.getD i [] ∈ a.ivs := by
       have e : a.ivs.getD i [] = a.ivs[i] := by simp [List.getD, hi]
       rw [e]
       exact List.getElem_mem _
     exact (ivs_mem s.ivs _ hm).2.1 _ (getD_mem hj))
   have Hk := Lib.hid s.keyed
   have HLe := Lib.hid hL
   have HF : Hid (recsOf a = (a.ivs.take a.ivs.length).flatten) := Lib.hid (by rw [List.take_length]; rfl)
   have Hv := Lib.hid hv
   have Hn2 := Lib.hid n2
   have HO : Hid (∀ R, R = recsOf a → (pairsD d R).length = R.length) := Lib.hid (fun R _ => by unfold pairsD; rw [List.length_map])
   clear s hv hL n1 n2 n3 n4 n5 h1 h2 h3 hB
   go_enter Tryz.func14, Tryz.ntmps14
   go_upto_region 1 with (fail)
   refine wp_name (fun w0 => Ext w w0 ∧ DsAt w0 w.heap.size d ∧ ArAt w0 (w.heap.size + 1) a q c p m) (ds_ar w d a q c p m) ?_
   rintro w0 ⟨he0, hd0, ha0⟩
   go_upto_region 2 with (fail)
   have hm1 := World.ownsRow_made (base := w.heap.size) (e := 65) (size := 2) w0 #[] 0 he0.size (by simp) rfl
   refine wp_name (fun w1 => Ext w w1 ∧ DsAt w1 w.heap.size d ∧ ArAt w1 (w.heap.size + 1) a q c p m ∧ w1.ownsRow w.heap.size 65 2 (.slice (some ⟨w0.heap.size, 0, none⟩) 0 0) 0 []) ⟨he0.trans (Ext.alloc _ _), hd0.ext (Ext.alloc _ _), ha0.ext (Ext.alloc _ _), hm1⟩ ?_
   clear hm1
   rintro w1 ⟨he1, hd1, ha1, ho1⟩
   go_upto_region 5 with (first
     | (refine wpList_ds (o := ⟨some 9, _, _, _, _, _⟩) rfl (.tmp 2) rfl _ rfl d hd1 ?_)
     | (refine wpList_row (o := ⟨some 10, _, _, _, _, _⟩) rfl 29 (.tmp 3) rfl _ rfl _ _ _ ha1 arDesc rfl arSize ?_)
     | (go_at_call 11; refine (HV.out _ he1).mono ?_; rintro e w2 ⟨rfl, he2⟩))
   have Hx2 := Lib.hid (And.intro (he1.trans he2) (And.intro (hd1.ext he2) (And.intro (ha1.ext he2) (own_ext ho1 he2))))
   clear he0 hd0 ha0 he1 hd1 ha1 ho1 he2 HV
   go_loopw [5, 6] (fun out i wx => ∃ k : Nat, k ≤ a.ivs.length ∧ i = .int .i64 k ∧ wx.ownsRow w.heap.size 65 2 out (lensTo a.ivs k) (prCells (pairsD d ((a.ivs.take k).flatten))) ∧ Ext w wx ∧ DsAt wx w.heap.size d ∧ ArAt wx (w.heap.size + 1) a q c p m) (fun _ i _ => a.ivs.length - (intOf i).toNat)
   case atStart => exact ⟨0, Nat.zero_le _, rfl, Hx2.out.2.2.2, Hx2.out.1, Hx2.out.2.1, Hx2.out.2.2.1⟩
   case round =>
     obtain ⟨k, hk, rfl, ho, hx, hd, ha⟩ := hrel
     have hn2 := Hn2.out
     have x4 : wr.cell? ⟨w.heap.size + 1, 4, none⟩ = some (.slice p a.ivs.length m) := Blk.val ha 4 _ rfl
     have lx := Blk.lt ha
     by_cases hlt : k < a.ivs.length
     · have hltI : (k : Int) < a.ivs.length := by omega
       have HQ := Lib.hid (And.intro ho (And.intro hx (And.intro hd ha)))
       have Hlt := Lib.hid hlt
       obtain ⟨L, hL⟩ : ∃ L, L = a.ivs.getD k [] := ⟨_, rfl⟩
       obtain ⟨T, hT⟩ : ∃ T, T = lensTo a.ivs k := ⟨_, rfl⟩
       obtain ⟨F, hF⟩ : ∃ F, F = (a.ivs.take k).flatten := ⟨_, rfl⟩
       have HRow : Hid (∀ W, Ext w W → ∃ b off qi ci, p = some ⟨b, off, none⟩ ∧ b < W.heap.size ∧ W.cell? ⟨b, off + k, none⟩ = some (.slice qi L.length ci) ∧ Strs W qi L) := Lib.hid (fun W e => by
         obtain ⟨b, off, v, hpq, hb, hcv, qi, ci, rfl, hsi, _⟩ := (Hv.out.ivs.ext e).at k hlt
         rw [← hL] at hcv hsi
         exact ⟨b, off, qi, ci, hpq, hb, hcv, hsi⟩)
       have HRc : Hid (∀ t, t < L.length → recB d (L.getD t []) = true) := Lib.hid (fun t ht => by rw [hL] at ht ⊢; exact HRec.out k t hlt ht)
       have HB : Hid (T + L.length ≤ 120000) := Lib.hid (by rw [hT, hL, ← lensTo_succ hlt]; exact HT.out (k + 1) hlt)
       have HE1 : Hid (lensTo a.ivs (k + 1) = T + L.length) := Lib.hid (by rw [lensTo_succ hlt, hT, hL])
       have HE2 : Hid ((a.ivs.take (k + 1)).flatten = F ++ L) := Lib.hid (by rw [flat_succ hlt, hF, hL])
       have ho0 := ho
       rw [← hT, ← hF] at ho0
       have Ho0 := Lib.hid ho0
       have hLm : L.length ≤ 1000 := by rw [hL]; exact HLe.out k
       clear ho hx hd ha ho0 hL hT hF
       go_upto_region 8 with fail
       clear x4 lx
       obtain ⟨wk, rfl⟩ : ∃ wk : World, wk = wr := ⟨_, rfl⟩
       go_loopw [5, 7] (fun out j wy => ∃ t : Nat, t ≤ L.length ∧ j = .int .i64 t ∧ wy.ownsRow w.heap.size 65 2 out (T + t) (prCells (pairsD d (F ++ L.take t))) ∧ Ext w wy ∧ DsAt wy w.heap.size d ∧ ArAt wy (w.heap.size + 1) a q c p m) (fun _ j _ => L.length - (intOf j).toNat)
       case atStart => exact ⟨0, Nat.zero_le _, rfl, by rw [List.take_zero, List.append_nil]; exact Ho0.out, HQ.out.2⟩
       case round =>
         obtain ⟨t, ht, rfl, ho, hx, hd, ha⟩ := hrel
         have x4 : wr.cell? ⟨w.heap.size + 1, 4, none⟩ = some (.slice p a.ivs.length m) := Blk.val ha 4 _ rfl
         have lx := Blk.lt ha
         obtain ⟨b, off, qi, ci, hpq, hb, hcv, hsi⟩ := HRow.out _ hx
         subst hpq
         obtain ⟨wz, rfl⟩ : ∃ wz : World, wz = wr := ⟨_, rfl⟩
         by_cases hjt : t < L.length
         · have hjtI : (t : Int) < L.length := by omega
           have hrec := HRc.out t hjt
           have hTk : prCells (pairsD d (F ++ L.take (t + 1))) = prCells (pairsD d (F ++ L.take t)) ++ [.string ⟨(keyD d (L.getD t [])).toArray⟩, .string ⟨(L.getD t []).toArray⟩] := by
             rw [List.take_succ_eq_append_getElem hjt, ← List.append_assoc]
             unfold pairsD
             rw [List.map_append, prCells_app]
             simp [prCells, List.getD, hjt]
           have HTk := Lib.hid hTk
           obtain ⟨b2, o2, rfl, hl2, hc2⟩ := hsi.at t hjt
           have hcs := hc2 t hjt
           have HO := Lib.hid ho
           have HX := Lib.hid hx
           have HD := Lib.hid hd
           have HA := Lib.hid ha
           have Hjt := Lib.hid hjt
           clear hc2 hTk hsi ho hx hd ha
           generalize L.getD t [] = x at *
           have HK := Lib.hid (fun W => keyOfR_any d x Hk.out hrec W)
           generalize keyD d x = kx at *
           clear hrec
           go_upto_region 10 with fail
           refine wp_region_mk 21 (Ext.refl wz) (by kernel_rfl) (by kernel_rfl) (by kernel_rfl) ?_
           simp only [List.take_succ_cons, List.take_zero, List.take_nil, List.drop_succ_cons, List.drop_zero, List.drop_nil, List.map_cons, List.map_nil]
           repeat (first
             | (refine wpML_det (o := ⟨some 32, _, _, _, _, _⟩) (v := .agg #[.int .i64 d.id, .int .i64 d.org, .int .i64 d.format, .int .i64 d.length, .int .i64 d.block, .int .i64 d.keyAt, .int .i64 d.keyLength, .int .i64 d.interval, .int .i64 d.area, .int .i64 d.freeInterval, .int .i64 d.freeArea, .int .i64 d.base, .int .i64 d.altAt, .int .i64 d.altLength, .bool d.unique, .int .i64 d.cls, .string ⟨d.volume.toArray⟩, .string ⟨d.owner.toArray⟩, .int .i64 d.created, .int .i64 d.expires, .bool d.archived]) rfl ?_ ?_
                · intro a w' he hr K hK
                  simp [Reads, Oper.looksAt, Op.operands, factAt, Is] at hr
                  exact wp_load_row 23 (.tmp 2) rfl (w.heap.size) (by go_simp) _ _ _ _ (he.blk _ _ HD.out) dsDesc rfl dsSize (hK _ (Ext.refl _))
                simp only [setL, List.set_cons_succ, List.set_cons_zero])
             | (refine wpML_det (o := ⟨some 41, _, _, _, _, _⟩) (v := .string ⟨kx.toArray⟩) rfl ?_ ?_
                · intro a w' he hr K hK
                  simp [Reads, Oper.looksAt, Op.operands, Call.operands, factAt, Is] at hr
                  go_simp
                  refine (HK.out _).mono ?_
                  rintro e w'' ⟨rfl, he''⟩
                  exact hK _ he''
                simp only [setL, List.set_cons_succ, List.set_cons_zero])
             | (refine wpML_det (o := ⟨some 50, _, _, _, _, _⟩) (v := .agg (#[.string ⟨kx.toArray⟩, .string ⟨x.toArray⟩])) rfl ?_ ?_
                · intro a w' he hr K hK
                  simp [Reads, Oper.looksAt, Op.operands, factAt, Is] at hr
                  have hpv : ((#[(0, .tmp 41), (1, .tmp 49)] : Array (Nat × Operand)).map fun (i, x) => (i, a.eval x)).toList = [(0, .string ⟨kx.toArray⟩), (1, .string ⟨x.toArray⟩)] := by go_simp
                  refine wp_build 65 #[(0, .tmp 41), (1, .tmp 49)] rfl ?_ ?_
                  · rw [hpv, prBuiltL _ _]; rfl
                  · rw [hpv, prBuiltL _ _]; exact hK _ (Ext.refl _)
                simp only [setL, List.set_cons_succ, List.set_cons_zero])
             | (refine wpML_fact (o := ⟨some 51, _, _, _, _, _⟩) (Fresh 1 1 (.cells #[.string ⟨kx.toArray⟩, .string ⟨x.toArray⟩] 65)) (Fresh.stable _ _ _) rfl ?_ ?_
                · intro a w' he hr K hK
                  simp [Reads, Oper.looksAt, Op.operands, Call.operands, factAt, Is] at hr
                  go_simp
                  exact hK _ _ (Ext.alloc _ _) (Fresh.new _ _ _ _)
                simp only [setL, List.set_cons_succ, List.set_cons_zero])
             | (refine wpML_move _ _ rfl (by first | exact .inl rfl | exact .inr rfl) rfl (by first | exact Is.stable _ | exact AppF.stable _ | exact WrF.stable _ | exact PtrF.stable _ _ | exact IfcF.stable (Fresh.stable _ _ _) _ | exact PairF.stable (RowF.stable _ _ _ _) _ | exact RowF.stable _ _ _ _ | exact Fresh.stable _ _ _) ?_
                simp only [setL, List.set_cons_succ, List.set_cons_zero, List.getD_cons_succ, List.getD_cons_zero])
             | (refine wpML_moveC _ rfl (by first | exact .inl rfl | exact .inr rfl) ?_
                simp only [setL, List.set_cons_succ, List.set_cons_zero])
             | (apply wpML_det rfl
                · intro a w' he hr K hK
                  simp [Reads, Oper.looksAt, Op.operands, Call.operands, factAt, Is] at hr
                  have hx := he.cell
                  go_simp
                  try go_bits
                  try (rw [if_neg (by omega)]; go_simp)
                  first
                    | exact hK _ (Ext.refl _)
                simp only [setL, List.set_cons_succ, List.set_cons_zero])
             | (apply wpML_det rfl
                · intro a w' he hr K hK
                  simp [Reads, Oper.looksAt, Op.operands, Call.operands, factAt, Fresh] at hr
                  obtain ⟨b, hr1, hr2⟩ := hr
                  go_simp
                  exact hK _ (Ext.refl _)
                simp only [setL, List.set_cons_succ, List.set_cons_zero]))
           intro w2 he2
           repeat (first | with_reducible refine rest_is _ _ _ _ ?_ | (with_reducible refine rest_fact _ _ _ _ ?_; intro _ _) | with_reducible refine rest_end _ _ ?_)
           simp only [List.reverse_cons, List.reverse_nil, List.nil_append, List.cons_append]
           rename_i x51 h51
           obtain ⟨b51, rfl, hb51⟩ := h51
           have HO2 := Lib.hid (own_ext HO.out he2)
           have HX2 := Lib.hid (HX.out.trans he2)
           have HD2 := Lib.hid (HD.out.ext he2)
           have HA2 := Lib.hid (HA.out.ext he2)
           have Hb51 := Lib.hid hb51
           have hsw := HX2.out.size
           have hTm := HB.out
           clear he2 hb51 hcs hl2 hcv hb x4 lx HO HX HD HA
           go_wp2_with (at_builtin; go_must (refine wpList_app (o := ⟨some 52, _, _, _, _, _⟩) rfl (.tmp 31) (.tmp 51) 41 65 rfl w.heap.size (.agg #[.string ByteArray.empty, .string ByteArray.empty]) 2 32 Tryz.underlying41 infoPairA rfl (by decide) _ (T + t) _ rfl HO2.out _ [.string ⟨kx.toArray⟩, .string ⟨x.toArray⟩] rfl Hb51.out rfl (by intro u hu; simp at hu; rcases hu with rfl | rfl <;> rfl) (by omega) (by decide) (by omega) ?_; intro v8 w8 ho8 hg8; have r8 := rty_app (T := 65) hg8 HO2.out (by omega); obtain ⟨q8, k8, rfl⟩ := own_slice ho8; have Ho8 := Lib.hid ho8; have Hr8 := Lib.hid r8; clear ho8 hg8 r8))
           have hjt2 := Hjt.out
           refine ⟨⟨t + 1, by omega, by go_num, by rw [HTk.out]; exact Ho8.out, Ext.trans' HX2.out Hr8.out.1, Hr8.out.2 _ _ _ (by decide) HD2.out, Hr8.out.2 _ _ _ (by decide) HA2.out⟩, by simp [intOf]; omega⟩
         · have hge : decide ((t : Int) < (L.length : Int)) = false := decide_eq_false (by omega)
           have hte : t = L.length := by omega
           have HO := Lib.hid ho
           have HX := Lib.hid (And.intro hx (And.intro hd ha))
           have Hte := Lib.hid hte
           clear ho hx hd ha hsi hte
           go_wp2_with fail
           have hlt2 := Hlt.out
           have ho2 := HO.out
           rw [Hte.out, List.take_length] at ho2
           refine ⟨⟨k + 1, by omega, by go_num, by rw [HE1.out, HE2.out]; exact ho2, HX.out⟩, by simp [intOf]; omega⟩
     · have hge : decide ((k : Int) < (a.ivs.length : Int)) = false := decide_eq_false (by omega)
       have hke : k = a.ivs.length := by omega
       rw [hke] at ho
       rw [← HF.out] at ho
       have hfl := lensTo_flat a.ivs a.ivs.length
       rw [← HF.out] at hfl
       rw [← hfl] at ho
       have HOo := Lib.hid ho
       have HX := Lib.hid hx
       have HLn := Lib.hid (HO.out _ rfl)
       clear ho hx hd ha hfl hke hk
       go_wp2_with fail
       go_ret
       refine ⟨HX.out, _, rfl, ?_⟩
       rw [HLn.out]
       exact HOo.out
end Go.Proofs.YtifmbcjbccedfaaGreatDoor
