/- Headers are compared; facts for regions that call Append; the example of chapter 18. -/
import Derived.Test.YtkhlglkipeoalaaDoorX22
set_option linter.unusedSimpArgs false
set_option linter.unusedVariables false
namespace Go.Proofs.YtkhlglkipeoalaaDoor
open Go.RowKit Dsd

theorem Places_ref (p ql : Option Addr) (n cap k c : Nat) (m : List (List UInt8)) (h : Hd) (d : DS) (ns : List Int) (w : World) (hs : Strs w p m) (hn : m.length = n) (hm : Small m) (hl : Ints w ql ns) (hk : ns.length = k) (hk2 : k ≤ 1000) :
    Calls Tryd.prog 23 #[.slice p n cap, .agg #[.int .i64 h.applied, .int .i64 h.count, .int .i64 h.fin, .int .i64 h.root, .int .i64 h.height, .int .i64 h.splits, .int .i64 h.areas], .agg #[.int .i64 d.id, .int .i64 d.org, .int .i64 d.format, .int .i64 d.length, .int .i64 d.block, .int .i64 d.keyAt, .int .i64 d.keyLength, .int .i64 d.interval, .int .i64 d.area, .int .i64 d.freeInterval, .int .i64 d.freeArea, .int .i64 d.base, .int .i64 d.altAt, .int .i64 d.altLength, .bool d.unique, .int .i64 d.cls, .string ⟨d.volume.toArray⟩, .string ⟨d.owner.toArray⟩, .int .i64 d.created, .int .i64 d.expires, .bool d.archived], .slice ql k c] w (PlOut (placesOf m h d ns) w) := by
  by_cases hd : doorOf h d 1 = 0
  · exact Places_ref_main p ql n cap k c m h d ns w hs hn hm hl hk hk2 hd
  · exact (Places_ref_door p ql n cap k c h d w hd).mono fun e w' ⟨h1, h2⟩ => h1 ▸ plOut_no h2 (by unfold placesOf; rw [if_pos hd])

theorem hdFields : (Tryd.prog.fieldsOf 28).toList.map (fun f => (f.name, f.type, f.offset)) = [("Applied", 3, 0), ("Count", 3, 1), ("End", 3, 2), ("Root", 3, 3), ("Height", 3, 4), ("Splits", 3, 5), ("Areas", 3, 6)] := by kernel_rfl
theorem hdHeld : Tryd.prog.stoodInHeld 28 = false := by kernel_rfl
theorem hdGuard : Tryd.prog.eqGuardType Tryd.prog.depth 28 = false := by kernel_rfl
theorem list7 {α : Type} (l : List α) (h : l.length = 7) : ∃ a b c d e f g, l = [a, b, c, d, e, f, g] := by
  rcases l with _ | ⟨a, _ | ⟨b, _ | ⟨c, _ | ⟨d, _ | ⟨e, _ | ⟨f, _ | ⟨g, _ | ⟨x, l⟩⟩⟩⟩⟩⟩⟩⟩ <;> simp at h
  exact ⟨a, b, c, d, e, f, g, rfl⟩
/-- Headers are compared field by field. -/
theorem hd_equal (H G : Hd) (W : World) : (Op.equalIn 10000 28 (.agg #[.int .i64 H.applied, .int .i64 H.count, .int .i64 H.fin, .int .i64 H.root, .int .i64 H.height, .int .i64 H.splits, .int .i64 H.areas]) (.agg #[.int .i64 G.applied, .int .i64 G.count, .int .i64 G.fin, .int .i64 G.root, .int .i64 G.height, .int .i64 G.splits, .int .i64 G.areas])).run Tryd.prog W = .ok (decide (H = G)) W := by
  rw [run_equalIn_agg W 9999 28 _ _ hdDesc hdHeld]
  have h := hdFields
  generalize (Tryd.prog.fieldsOf 28).toList = fs at *
  have hl : fs.length = 7 := by simpa using congrArg List.length h
  obtain ⟨a, b, c, d, e, f, g, rfl⟩ := list7 fs hl
  simp at h
  obtain ⟨⟨a1, a2, a3⟩, ⟨b1, b2, b3⟩, ⟨c1, c2, c3⟩, ⟨d1, d2, d3⟩, ⟨e1, e2, e3⟩, ⟨f1, f2, f3⟩, g1, g2, g3⟩ := h
  obtain ⟨x1, x2, x3, x4, x5, x6, x7⟩ := H
  obtain ⟨y1, y2, y3, y4, y5, y6, y7⟩ := G
  simp [Op.eqFields, a1, a2, a3, b1, b2, b3, c1, c2, c3, d1, d2, d3, e1, e2, e3, f1, f2, f3, g1, g2, g3, go_sem]
  (repeat' split) <;> simp_all

theorem text_any (n : Nat) (hn : n ≤ 1000000) (w : World) : Calls Tryd.prog 34 #[.int .i64 n] w fun e w' => e = .returned (.string ⟨(zsL n).toArray⟩) ∧ Ext w w' := by
  have hz : zsL (n : Int) = List.replicate n 0 := by simp [zsL]
  rw [hz]
  obtain ⟨i0, hi, hz0, hz1, hz2⟩ := info_parts infoByte
  have hmk := run_make_bytes (P := Tryd.prog) w 94 5 i0 n Tryd.underlying94 hi hz0 hz1 hz2 (by omega)
  have hcv := run_new_string (P := Tryd.prog) w 94 9 5 n n (List.replicate n 0) 5 Tryd.underlying94 Tryd.underlying5 Tryd.underlying9 (by simp)
  clear hi hz0 hz1 hz2 hz
  generalize hR : List.replicate n (0 : UInt8) = R at *
  clear hR
  go_enter Tryd.func34, Tryd.ntmps34
  go_wp2
  go_ret
  exact ⟨rfl, Ext.alloc _ _⟩

/-! ### Facts for regions that call Append -/
def AppF (R : AppRes) : Fact := fun x w => ∃ q k c, x = .tuple #[.agg #[.int .i64 R.h.applied, .int .i64 R.h.count, .int .i64 R.h.fin, .int .i64 R.h.root, .int .i64 R.h.height, .int .i64 R.h.splits, .int .i64 R.h.areas], .slice q k c, .int .i64 R.at', .int .i64 R.e] ∧ k = R.w.length ∧ Wrts w q R.w
theorem AppF.stable (R : AppRes) : (AppF R).stable := fun _ _ _ he ⟨q, k, c, h1, h2, h3⟩ => ⟨q, k, c, h1, h2, h3.ext he⟩
def WrF (L : List (Int × List UInt8)) : Fact := fun x w => ∃ q c, x = .slice q L.length c ∧ Wrts w q L
theorem WrF.stable (L : List (Int × List UInt8)) : (WrF L).stable := fun _ _ _ he ⟨q, c, h1, h2⟩ => ⟨q, c, h1, h2.ext he⟩
/-- A variable of its own. -/
def PtrF (B : Nat) (o : Obj) : Fact := fun x w => ∃ b, x = .pointer (some ⟨b, 0, none⟩) ∧ Blk w b o ∧ B ≤ b
theorem PtrF.stable (B : Nat) (o : Obj) : (PtrF B o).stable := fun _ _ _ he ⟨b, h1, h2, h3⟩ => ⟨b, h1, he.blk _ _ h2, h3⟩
def IfcF (f : Fact) (t : TypeId) : Fact := fun x w => ∃ y, x = .iface t y ∧ f y w
theorem IfcF.stable {f : Fact} (hf : f.stable) (t : TypeId) : (IfcF f t).stable := fun _ _ _ he ⟨y, h1, h2⟩ => ⟨y, h1, hf _ _ _ he h2⟩

theorem Any.strong {K : Kills} {R : Nat → Rel} : Any.strong K R := fun _ _ _ _ _ _ h => h
/-- A variable of type t, that was made behind B's blocks, takes another value. -/
def TChg (B : Nat) (t : TypeId) : Rel := fun w w' => ∃ b cs, B ≤ b ∧ Blk w b (.cells cs t) ∧ Chg b w w'
theorem TChg.below {B : Nat} {t : TypeId} {w w' : World} (c : TChg B t w w') : Below B w w' := by
  obtain ⟨b, cs, hB, hb, hc⟩ := c
  exact ⟨hc.os, hc.tape, hc.output, by rw [hc.size]; have := Blk.lt hb; omega, fun k hk => hc.block k (by omega)⟩
theorem Blk.tchg {B b : Nat} {t t' : TypeId} {w w' : World} {cs : Array Value} (h : Blk w b (.cells cs t')) (hne : t' ≠ t) (c : TChg B t w w') : w'.heap[b]? = w.heap[b]? := by
  obtain ⟨b0, cs0, hB, hb0, hc⟩ := c
  refine hc.block b fun e => ?_
  subst e
  have := (Eq.symm h).trans hb0
  simp at this
  exact hne this.2
theorem Blk.tchg' {B b : Nat} {t t' : TypeId} {w w' : World} {cs : Array Value} (h : Blk w b (.cells cs t')) (hne : t' ≠ t) (c : TChg B t w w') : Blk w' b (.cells cs t') := (Blk.tchg h hne c).trans h
theorem Wrts.tchg {B : Nat} {t : TypeId} {w w' : World} {p : Option Addr} {L : List (Int × List UInt8)} (h : Wrts w p L) (hne : 55 ≠ t) (c : TChg B t w w') : Wrts w' p L := by
  rcases h with h | ⟨b, off, hp, ⟨hb, cs, hbk⟩, hc⟩
  · exact .inl h
  · have e := Blk.tchg hbk hne c
    exact .inr ⟨b, off, hp, ⟨Blk.lt (Blk.tchg' hbk hne c), cs, Blk.tchg' hbk hne c⟩, fun i hi => ⟨(World.cell?_of_block (a := ⟨b, _, none⟩) e).trans (hc i hi).1, (World.cell?_of_block (a := ⟨b, _, none⟩) e).trans (hc i hi).2⟩⟩
theorem own_tchg {B : Nat} {t : TypeId} {w w' : World} {base : Nat} {e : TypeId} {size : Nat} {v : Value} {n : Nat} {xs : List Value} (h : w.ownsRow base e size v n xs) (hne : e ≠ t) (c : TChg B t w w') : w'.ownsRow base e size v n xs := by
  refine ⟨h.1, ?_⟩
  rcases h.2 with hn | ⟨b, cap, cur, rfl, hb, hg, rest⟩
  · exact .inl hn
  · exact .inr ⟨b, cap, cur, rfl, hb, Blk.tchg' hg hne c, rest⟩
theorem AppF.strong (R : AppRes) (K : Kills) (B : Nat) (t : TypeId) (hne : 55 ≠ t) : (AppF R).strong K (fun _ => TChg B t) := fun _ _ _ _ _ c ⟨q, k, cc, h1, h2, h3⟩ => ⟨q, k, cc, h1, h2, h3.tchg hne c⟩
theorem WrF.strong (L : List (Int × List UInt8)) (K : Kills) (B : Nat) (t : TypeId) (hne : 55 ≠ t) : (WrF L).strong K (fun _ => TChg B t) := fun _ _ _ _ _ c ⟨q, cc, h1, h3⟩ => ⟨q, cc, h1, h3.tchg hne c⟩
theorem RowsF.strong (E : TypeId) (B0 size n : Nat) (xs : List Value) (K : Kills) (B : Nat) (t : TypeId) (hne : E ≠ t) : (RowsF E B0 size n xs).strong K (fun _ => TChg B t) := fun _ _ _ _ _ c ⟨q, cc, h1, h3⟩ => ⟨q, cc, h1, own_tchg h3 hne c⟩
theorem Fresh.strong (n cap : Nat) (cs : Array Value) (t' : TypeId) (K : Kills) (B : Nat) (t : TypeId) (hne : t' ≠ t) : (Fresh n cap (.cells cs t')).strong K (fun _ => TChg B t) := fun _ _ _ _ _ c ⟨b, h1, h2⟩ => ⟨b, h1, Blk.tchg' h2 hne c⟩
theorem IfcF.strong {f : Fact} {K : Kills} {R : Nat → Rel} (hf : f.strong K R) (t : TypeId) : (IfcF f t).strong K R := fun i hi _ _ _ c ⟨y, h1, h2⟩ => ⟨y, h1, hf i hi _ _ _ c h2⟩
theorem appOut_F {m : List (List UInt8)} {h : Hd} {d : DS} {r : List UInt8} {w w' : World} {e : Ending} (a : AppOut m h d r w e w') : ∃ v, e = .returned v ∧ Ext w w' ∧ AppF (appendOf m h d r) v w' := by
  obtain ⟨he, q, k, c, rfl, hk, hq⟩ := a
  exact ⟨_, rfl, he, q, k, c, rfl, hk, hq⟩
theorem cells_blk {w : World} {b : Nat} {cs : Array Value} {t : TypeId} (h : Blk w b (.cells cs t)) : Cells w (some ⟨b, 0, none⟩) cs.toList :=
  .inr ⟨b, 0, rfl, Blk.lt h, fun i hi => Blk.val h (0 + i) _ (by simp at hi; simp [List.getD, hi])⟩

/-! ### The example of the chapter -/
def exD : DS := ⟨0, 1, 0, 60, 0, 0, 0, 128, 0, 0, 0, 0, 0, 0, false, 0, [], [], 0, 0, false⟩
theorem exDoor : doorOf Hd.zero exD 1 = 0 := by decide
theorem exEnd (m : List (List UInt8)) : endOfC m exD.interval Hd.zero.fin = ([], 0) := by unfold endOfC; rw [if_pos (show Hd.zero.fin = 0 from rfl)]
theorem exPlaces (m : List (List UInt8)) : placesOf m Hd.zero exD [40, 40, 40, 60] = ([128, 168, 256, 296], 0) := by
  unfold placesOf
  rw [exEnd, exDoor, if_neg (by simp), if_neg (by decide), if_neg (by simp), if_neg (by simp)]
  have h : plFrom 128 [] 0 [40, 40, 40, 60] = [128, 168, 256, 296] := by decide
  exact congrArg (fun x => (x, (0 : Int))) h
theorem exAppend (m : List (List UInt8)) : appendOf m Hd.zero exD (zsL 40) = ⟨⟨0, 1, 1, 0, 0, 0, 0⟩, [(1, encStr 128 [zsL 40])], 128, 0⟩ := by
  unfold appendOf
  rw [exEnd, exDoor, if_neg (by simp), if_neg (by decide), if_neg (by simp)]
  have h : addOf 128 [] 0 (zsL 40) = ([zsL 40], 1) := by decide
  have h2 : addAt 128 [] 0 (zsL 40) = 128 := by decide
  simp only [show exD.interval = 128 from rfl, show Hd.zero.fin = 0 from rfl, h, h2]
  rfl

def exH : Hd := ⟨0, 1, 1, 0, 0, 0, 0⟩
theorem dsBuilt : Tryd.prog.built 23 [(1, .int .i64 1), (7, .int .i64 128), (3, .int .i64 60)] = some #[.int .i64 exD.id, .int .i64 exD.org, .int .i64 exD.format, .int .i64 exD.length, .int .i64 exD.block, .int .i64 exD.keyAt, .int .i64 exD.keyLength, .int .i64 exD.interval, .int .i64 exD.area, .int .i64 exD.freeInterval, .int .i64 exD.freeArea, .int .i64 exD.base, .int .i64 exD.altAt, .int .i64 exD.altLength, .bool exD.unique, .int .i64 exD.cls, .string ⟨exD.volume.toArray⟩, .string ⟨exD.owner.toArray⟩, .int .i64 exD.created, .int .i64 exD.expires, .bool exD.archived] := by kernel_rfl
theorem hdBuilt0 : Tryd.prog.built 28 [] = some #[.int .i64 0, .int .i64 0, .int .i64 0, .int .i64 0, .int .i64 0, .int .i64 0, .int .i64 0] := by kernel_rfl
theorem hdBuilt1 : Tryd.prog.built 28 [(1, .int .i64 1), (2, .int .i64 1)] = some #[.int .i64 exH.applied, .int .i64 exH.count, .int .i64 exH.fin, .int .i64 exH.root, .int .i64 exH.height, .int .i64 exH.splits, .int .i64 exH.areas] := by kernel_rfl
theorem ds_one (d : DS) : (#[.int .i64 d.id, .int .i64 d.org, .int .i64 d.format, .int .i64 d.length, .int .i64 d.block, .int .i64 d.keyAt, .int .i64 d.keyLength, .int .i64 d.interval, .int .i64 d.area, .int .i64 d.freeInterval, .int .i64 d.freeArea, .int .i64 d.base, .int .i64 d.altAt, .int .i64 d.altLength, .bool d.unique, .int .i64 d.cls, .string ⟨d.volume.toArray⟩, .string ⟨d.owner.toArray⟩, .int .i64 d.created, .int .i64 d.expires, .bool d.archived] : Array Value).all (·.oneCell') = true := by simp [Value.oneCell']

set_option maxRecDepth 100000 in
set_option maxHeartbeats 2000000 in
theorem awake_any (w : World) : Calls Tryd.prog 10 #[] w fun e w' => e = .returned (.bool true) ∧ Ext w w' := by
  have Hpl := Lib.hid (fun p ql w (hs : Strs w p [[]]) (hl : Ints w ql [40, 40, 40, 60]) => Places_any p ql 1 1 4 4 [[]] Hd.zero exD [40, 40, 40, 60] w hs rfl ⟨by simp, by simp⟩ hl rfl (by omega))
  simp only [exPlaces] at Hpl
  go_enter Tryd.func10, Tryd.ntmps10
  go_upto_region 2 with (first | (refine wpList_bld rfl 23 #[(1, .const (.int .i64 1)), (7, .const (.int .i64 128)), (3, .const (.int .i64 60))] rfl [(1, .int .i64 1), (7, .int .i64 128), (3, .int .i64 60)] rfl _ dsBuilt ?_) | (refine wpList_put rfl 23 (.tmp 1) (.tmp 8) rfl _ #[.int .i64 exD.id, .int .i64 exD.org, .int .i64 exD.format, .int .i64 exD.length, .int .i64 exD.block, .int .i64 exD.keyAt, .int .i64 exD.keyLength, .int .i64 exD.interval, .int .i64 exD.area, .int .i64 exD.freeInterval, .int .i64 exD.freeArea, .int .i64 exD.base, .int .i64 exD.altAt, .int .i64 exD.altLength, .bool exD.unique, .int .i64 exD.cls, .string ⟨exD.volume.toArray⟩, .string ⟨exD.owner.toArray⟩, .int .i64 exD.created, .int .i64 exD.expires, .bool exD.archived] rfl rfl _ _ (Blk.new w _) dsSize rfl (ds_one exD) ?_; intro w1 hb1 hc1))
  refine wp_name (fun w1 => Ext w w1 ∧ DsAt w1 w.heap.size exD) ⟨hc1.ext (Ext.alloc _ _) (Nat.le_refl _), hb1⟩ ?_
  clear hb1 hc1
  rintro w2 ⟨he2, hb2⟩
  go_upto_region 3 with (first | (refine wpList_bld (o := ⟨some 12, _, _, _, _, _⟩) rfl 28 #[] rfl [] rfl _ hdBuilt0 ?_) | (refine wpList_ds rfl (.tmp 1) rfl _ rfl exD (hb2.alloc _) ?_) | (go_at_call 19; refine (Hpl.out (some ⟨w2.heap.size, 0, none⟩) (some ⟨w2.heap.size + 1, 0, none⟩) _ (cells_blk (Blk.alloc (Blk.new w2 _) (.cells #[.int .i64 40, .int .i64 40, .int .i64 40, .int .i64 60] 3))) (cells_blk (Blk.new1 _ _ _ (by simp)))).mono ?_; rintro e w3 ⟨he3, q, k, c, rfl, rfl, hq⟩))
  refine wp_name (fun w4 => Ext w w4 ∧ DsAt w4 w.heap.size exD ∧ Ints w4 q [128, 168, 256, 296]) ⟨he2.trans (((Ext.alloc _ _).trans (Ext.alloc _ _)).trans he3), hb2.ext (((Ext.alloc _ _).trans (Ext.alloc _ _)).trans he3), hq⟩ ?_
  clear hb2 he2 hq he3
  rintro w4 ⟨he4, hb4, hq⟩
  have hlt4 : w.heap.size < w4.heap.size := Blk.lt hb4
  have Hb4 := Lib.hid hb4
  have Hq := Lib.hid hq
  have HE4 := Lib.hid he4
  have Hap := Lib.hid (fun b w' (hs : Strs w' (some ⟨b, 0, none⟩) [[]]) => (Append_any (some ⟨b, 0, none⟩) 1 1 [[]] Hd.zero exD (zsL 40) w' hs rfl ⟨by simp, by simp⟩ (by simp [zsL])).mono (fun e w'' h => appOut_F h))
  simp only [exAppend] at Hap
  have Htx := Lib.hid (text_any 40 (by omega))
  generalize zsL 40 = zs at *
  generalize encStr 128 [zs] = es at *
  clear hb4 hq he4 Hpl
  go_wp2_with fail
  refine wp_region_pk 200 [(12, [(11, 4)])] (Ext.refl w4) (by kernel_rfl) (by kernel_rfl) (by kernel_rfl) (by kernel_rfl) (by kernel_rfl) (by kernel_rfl) (gok_one _ _ 12 11 4 (TChg w4.heap.size 28) (PtrF w4.heap.size (.cells #[.int .i64 exH.applied, .int .i64 exH.count, .int .i64 exH.fin, .int .i64 exH.root, .int .i64 exH.height, .int .i64 exH.splits, .int .i64 exH.areas] 28)) (fun _ _ h => h.below) (PtrF.stable _ _) (by kernel_rfl)) ?_
  simp only [List.take_succ_cons, List.take_zero, List.take_nil, List.drop_succ_cons, List.drop_zero, List.drop_nil, List.map_cons, List.map_nil]
  repeat (first
    | (refine wpPL_step (o := ⟨some 4, _, _, _, _, _⟩) (PtrF w4.heap.size (.cells #[.int .i64 0, .int .i64 0, .int .i64 0, .int .i64 0, .int .i64 0, .int .i64 0, .int .i64 0] 28)) (PtrF.stable _ _) (by first | exact .inr (AppF.strong _ _ _ _ (by decide)) | exact .inr (WrF.strong _ _ _ _ (by decide)) | exact .inr (RowsF.strong _ _ _ _ _ _ _ _ (by decide)) | exact .inr (Fresh.strong _ _ _ _ _ _ _ (by decide)) | exact .inr (IfcF.strong (Fresh.strong _ _ _ _ _ _ _ (by decide)) _) | exact .inl (by kernel_rfl)) (by kernel_rfl) (by first | exact .inl rfl | exact .inr ⟨_, _, _, rfl, rfl, rfl⟩) ?_ ?_
       · intro a w' he hr K hK
         go_simp
         exact hK _ _ (Ext.alloc _ _) ⟨_, rfl, Blk.new _ _, he.size⟩
       simp only [setL, List.set_cons_succ, List.set_cons_zero])
    | (refine wpPL_det (o := ⟨some 22, _, _, _, _, _⟩) (v := .agg #[.int .i64 exD.id, .int .i64 exD.org, .int .i64 exD.format, .int .i64 exD.length, .int .i64 exD.block, .int .i64 exD.keyAt, .int .i64 exD.keyLength, .int .i64 exD.interval, .int .i64 exD.area, .int .i64 exD.freeInterval, .int .i64 exD.freeArea, .int .i64 exD.base, .int .i64 exD.altAt, .int .i64 exD.altLength, .bool exD.unique, .int .i64 exD.cls, .string ⟨exD.volume.toArray⟩, .string ⟨exD.owner.toArray⟩, .int .i64 exD.created, .int .i64 exD.expires, .bool exD.archived]) (by kernel_rfl) (by first | exact .inl rfl | exact .inr ⟨_, _, _, rfl, rfl, rfl⟩) ?_ ?_
       · intro a w' he hr K hK
         simp [Reads, Oper.looksAt, Op.operands, factAt, Is] at hr
         exact wp_load_row 23 (.tmp 1) rfl (w.heap.size) (by go_simp) _ _ _ _ (he.blk _ _ Hb4.out) dsDesc rfl dsSize (hK _ (Ext.refl _))
       simp only [setL, List.set_cons_succ, List.set_cons_zero])
    | (refine wpPL_step (o := ⟨some 19, _, _, _, _, _⟩) (Fresh 1 1 (.cells #[.string ⟨#[]⟩] 9)) (Fresh.stable _ _ _) (by first | exact .inr (AppF.strong _ _ _ _ (by decide)) | exact .inr (WrF.strong _ _ _ _ (by decide)) | exact .inr (RowsF.strong _ _ _ _ _ _ _ _ (by decide)) | exact .inr (Fresh.strong _ _ _ _ _ _ _ (by decide)) | exact .inr (IfcF.strong (Fresh.strong _ _ _ _ _ _ _ (by decide)) _) | exact .inl (by kernel_rfl)) (by kernel_rfl) (by first | exact .inl rfl | exact .inr ⟨_, _, _, rfl, rfl, rfl⟩) ?_ ?_
       · intro a w' he hr K hK
         simp [Reads, Oper.looksAt, Op.operands, Call.operands, factAt, Is] at hr
         go_simp
         exact hK _ _ (Ext.alloc _ _) (Fresh.new _ _ _ _)
       simp only [setL, List.set_cons_succ, List.set_cons_zero])
    | (refine wpPL_step (o := ⟨some 20, _, _, _, _, _⟩) (IfcF (Fresh 1 1 (.cells #[.string ⟨#[]⟩] 9)) 29) (IfcF.stable (Fresh.stable _ _ _) _) (by first | exact .inr (AppF.strong _ _ _ _ (by decide)) | exact .inr (WrF.strong _ _ _ _ (by decide)) | exact .inr (RowsF.strong _ _ _ _ _ _ _ _ (by decide)) | exact .inr (Fresh.strong _ _ _ _ _ _ _ (by decide)) | exact .inr (IfcF.strong (Fresh.strong _ _ _ _ _ _ _ (by decide)) _) | exact .inl (by kernel_rfl)) (by kernel_rfl) (by first | exact .inl rfl | exact .inr ⟨_, _, _, rfl, rfl, rfl⟩) ?_ ?_
       · intro a w' he hr K hK
         obtain ⟨b, h1, h2⟩ := hr 19 (by simp [Oper.looksAt, Op.operands])
         simp at h1
         go_simp
         exact hK _ _ (Ext.refl _) ⟨_, rfl, b, rfl, h2⟩
       simp only [setL, List.set_cons_succ, List.set_cons_zero])
    | (refine wpPL_det (o := ⟨some 21, _, _, _, _, _⟩) (v := .agg #[.int .i64 0, .int .i64 0, .int .i64 0, .int .i64 0, .int .i64 0, .int .i64 0, .int .i64 0]) (by kernel_rfl) (by first | exact .inl rfl | exact .inr ⟨_, _, _, rfl, rfl, rfl⟩) ?_ ?_
       · intro a w' he hr K hK
         refine wp_build 28 #[] rfl ?_ ?_
         · show (Tryd.prog.built 28 []).isSome = true
           rw [hdBuilt0]; rfl
         · show K (a.put _ (.agg ((Tryd.prog.built 28 []).getD #[]))) w'
           rw [hdBuilt0]; exact hK _ (Ext.refl _)
       simp only [setL, List.set_cons_succ, List.set_cons_zero])
    | (refine wpPL_step (o := ⟨some 24, _, _, _, _, _⟩) (AppF ⟨⟨0, 1, 1, 0, 0, 0, 0⟩, [(1, es)], 128, 0⟩) (AppF.stable _) (by first | exact .inr (AppF.strong _ _ _ _ (by decide)) | exact .inr (WrF.strong _ _ _ _ (by decide)) | exact .inr (RowsF.strong _ _ _ _ _ _ _ _ (by decide)) | exact .inr (Fresh.strong _ _ _ _ _ _ _ (by decide)) | exact .inr (IfcF.strong (Fresh.strong _ _ _ _ _ _ _ (by decide)) _) | exact .inl (by kernel_rfl)) (by kernel_rfl) (by first | exact .inl rfl | exact .inr ⟨_, _, _, rfl, rfl, rfl⟩) ?_ ?_
       · intro a w' he hr K hK
         obtain ⟨y, h1, b, h2, h3⟩ := hr 20 (by simp [Oper.looksAt, Op.operands, Call.operands])
         simp [Reads, Oper.looksAt, Op.operands, Call.operands, factAt, Is] at hr
         subst h2
         simp at h1
         go_simp
         refine (Hap.out b _ (cells_blk h3)).mono ?_
         rintro e w'' ⟨v, rfl, he', hf⟩
         exact hK _ _ he' hf
       simp only [setL, List.set_cons_succ, List.set_cons_zero])
    | (refine wpPL_det (o := ⟨some 25, _, _, _, _, _⟩) (v := .agg #[.int .i64 exH.applied, .int .i64 exH.count, .int .i64 exH.fin, .int .i64 exH.root, .int .i64 exH.height, .int .i64 exH.splits, .int .i64 exH.areas]) (by kernel_rfl) (by first | exact .inl rfl | exact .inr ⟨_, _, _, rfl, rfl, rfl⟩) ?_ ?_
       · intro a w' he hr K hK
         obtain ⟨q1, k1, c1, h1, h2, h3⟩ := hr 18 (by simp [Oper.looksAt, Op.operands])
         simp at h1
         go_simp
         exact hK _ (Ext.refl _)
       simp only [setL, List.set_cons_succ, List.set_cons_zero])
    | (refine wpPL_det (o := ⟨some 27, _, _, _, _, _⟩) (v := .int .i64 128) (by kernel_rfl) (by first | exact .inl rfl | exact .inr ⟨_, _, _, rfl, rfl, rfl⟩) ?_ ?_
       · intro a w' he hr K hK
         obtain ⟨q1, k1, c1, h1, h2, h3⟩ := hr 18 (by simp [Oper.looksAt, Op.operands])
         simp at h1
         go_simp
         exact hK _ (Ext.refl _)
       simp only [setL, List.set_cons_succ, List.set_cons_zero])
    | (refine wpPL_det (o := ⟨some 28, _, _, _, _, _⟩) (v := .int .i64 0) (by kernel_rfl) (by first | exact .inl rfl | exact .inr ⟨_, _, _, rfl, rfl, rfl⟩) ?_ ?_
       · intro a w' he hr K hK
         obtain ⟨q1, k1, c1, h1, h2, h3⟩ := hr 18 (by simp [Oper.looksAt, Op.operands])
         simp at h1
         go_simp
         exact hK _ (Ext.refl _)
       simp only [setL, List.set_cons_succ, List.set_cons_zero])
    | (refine wpPL_step (o := ⟨some 26, _, _, _, _, _⟩) (WrF [(1, es)]) (WrF.stable _) (by first | exact .inr (AppF.strong _ _ _ _ (by decide)) | exact .inr (WrF.strong _ _ _ _ (by decide)) | exact .inr (RowsF.strong _ _ _ _ _ _ _ _ (by decide)) | exact .inr (Fresh.strong _ _ _ _ _ _ _ (by decide)) | exact .inr (IfcF.strong (Fresh.strong _ _ _ _ _ _ _ (by decide)) _) | exact .inl (by kernel_rfl)) (by kernel_rfl) (by first | exact .inl rfl | exact .inr ⟨_, _, _, rfl, rfl, rfl⟩) ?_ ?_
       · intro a w' he hr K hK
         obtain ⟨q1, k1, c1, h1, rfl, h3⟩ := hr 18 (by simp [Oper.looksAt, Op.operands])
         simp at h1
         go_simp
         exact hK _ _ (Ext.refl _) ⟨q1, c1, rfl, h3⟩
       simp only [setL, List.set_cons_succ, List.set_cons_zero])
    | (refine wpPL_pivot (o := ⟨none, _, _, _, _, _⟩) Any Any.stable (.inr Any.strong) (by kernel_rfl) (by first | exact .inl rfl | exact .inr ⟨_, _, _, rfl, rfl, rfl⟩) ?_ ?_
       · intro a w' he hr K hK
         obtain ⟨b, h1, h2, h3⟩ := hr 4 (by simp [Oper.looksAt, Op.operands])
         have hv := hr 25 (by simp [Oper.looksAt, Op.operands])
         refine wp_store_row 28 (.tmp 4) (.tmp 25) rfl b #[.int .i64 exH.applied, .int .i64 exH.count, .int .i64 exH.fin, .int .i64 exH.root, .int .i64 exH.height, .int .i64 exH.splits, .int .i64 exH.areas] h1 hv _ _ h2 hdSize rfl (hd_one exH) ?_
         exact hK _ _ ⟨b, _, h3, h2, Chg.setRow⟩ trivial (fun x hx _ y hy => by simp at hx; subst hx; simp at hy; subst hy; exact ⟨b, h1, Blk.setRow h2, h3⟩)
       simp only [setL, List.set_cons_succ, List.set_cons_zero])
    | (refine wpPL_move _ _ (by kernel_rfl) (by first | exact .inl rfl | exact .inr ⟨_, _, _, rfl, rfl, rfl⟩) (by first | exact .inl rfl | exact .inr rfl) rfl (by first | exact Is.stable _ | exact RowsF.stable _ _ _ _ _ | exact NoneF.stable _ _ | exact Fresh.stable _ _ _ | exact AppF.stable _ | exact WrF.stable _ | exact PtrF.stable _ _ | exact PlF.stable _ _) (by first | exact .inr (Is.strong _ _ _) | exact .inr (AppF.strong _ _ _ _ (by decide)) | exact .inr (WrF.strong _ _ _ _ (by decide)) | exact .inr (RowsF.strong _ _ _ _ _ _ _ _ (by decide)) | exact .inl (by kernel_rfl)) ?_
       simp only [setL, List.set_cons_succ, List.set_cons_zero, List.getD_cons_succ, List.getD_cons_zero])
    | (apply wpPL_det (by kernel_rfl) (by first | exact .inl rfl | exact .inr ⟨_, _, _, rfl, rfl, rfl⟩)
       · intro a w' he hr K hK
         simp [Reads, Oper.looksAt, Op.operands, Call.operands, factAt, Is] at hr
         have hx := he.cell
         go_simp
         try go_bits
         try (rw [if_neg (by omega)]; go_simp)
         first
           | exact hK _ (Ext.refl _)
           | (refine (Htx.out _).mono ?_; rintro e w'' ⟨rfl, he'⟩; exact hK _ he')
       simp only [setL, List.set_cons_succ, List.set_cons_zero]))
  intro w2 he2
  simp only [killL, killIn, List.foldl_cons, List.foldl_nil, List.set_cons_succ, List.set_cons_zero]
  repeat (first | with_reducible refine rest_is _ _ _ _ ?_ | (with_reducible refine rest_fact _ _ _ _ ?_; intro _ _) | with_reducible refine rest_end _ _ ?_)
  simp only [List.reverse_cons, List.reverse_nil, List.nil_append, List.cons_append]
  rename_i x4 h4 x5 h5 x18 h18 x19 h19 x20 h20 x24 h24 x26 h26
  obtain ⟨b, rfl, hb, hB⟩ := h4
  obtain ⟨q5, c5, rfl, hw5⟩ := h5
  clear h18 h19 h20 h24 h26
  obtain ⟨b', off, rfl, hb', hc⟩ := hw5.at 0 (by simp)
  have hc0 := (hc 0 (by simp)).1
  simp at hc0
  have hbl := Blk.lt hb
  have Hb := Lib.hid hb
  have HE2 := Lib.hid (HE4.out.trans he2)
  have HI := Lib.hid (fun w' (h1 : Ints w' q [128, 168, 256, 296]) q2 (h2 : Ints w' (some q2) [128, 168, 256, 296]) => (Ints_any q (some q2) c 4 4 4 [128, 168, 256, 296] [128, 168, 256, 296] w' h1 h2 rfl rfl (by simp) (by simp)).mono (show ∀ (e : Ending) (w'' : World), (e = .returned (.bool ([128, 168, 256, 296] == ([128, 168, 256, 296] : List Int))) ∧ ∃ n, w'' = w'.drewN n) → (e = .returned (.bool true) ∧ Ext w' w'') from fun e w'' ⟨h, hw⟩ => ⟨by rw [h]; rfl, Ext.of_drawn hw⟩))
  have Hq2 := Lib.hid (Hq.out.ext he2)
  have hE : ∀ W, (Op.equalIn 10000 28 (.agg #[.int .i64 exH.applied, .int .i64 exH.count, .int .i64 exH.fin, .int .i64 exH.root, .int .i64 exH.height, .int .i64 exH.splits, .int .i64 exH.areas]) (.agg #[.int .i64 exH.applied, .int .i64 exH.count, .int .i64 exH.fin, .int .i64 exH.root, .int .i64 exH.height, .int .i64 exH.splits, .int .i64 exH.areas])).run Tryd.prog W = .ok true W := fun W => by rw [hd_equal]; simp
  have hG := hdGuard
  clear hb hc hw5 he2 Hap Htx
  go_wp2_with (first | (go_at_call 24; refine (HI.out _ (Hq2.out.ext (Ext.alloc w2 (.cells #[.int .i64 128, .int .i64 168, .int .i64 256, .int .i64 296] 3))) ⟨w2.heap.size, 0, none⟩ (cells_blk (Blk.new w2 (.cells #[.int .i64 128, .int .i64 168, .int .i64 256, .int .i64 296] 3)))).mono ?_; rintro e w5 ⟨rfl, he5⟩; have hE5 := (Ext.alloc w2 (.cells #[.int .i64 128, .int .i64 168, .int .i64 256, .int .i64 296] 3)).trans he5; have hb5 := hE5.blk _ _ Hb.out; have hc5 := (hE5.cell b' off hb').trans hc0; have HE5 := Lib.hid hE5; clear hE5) | (refine wpList_hd rfl (.tmp 4) rfl _ rfl exH hb5 ?_) | (refine wpList_bld (o := ⟨some 42, _, _, _, _, _⟩) rfl 28 #[(1, .const (.int .i64 1)), (2, .const (.int .i64 1))] rfl [(1, .int .i64 1), (2, .int .i64 1)] rfl _ hdBuilt1 ?_))
  go_ret
  exact ⟨rfl, HE2.out.trans HE5.out⟩
end Go.Proofs.YtkhlglkipeoalaaDoor
