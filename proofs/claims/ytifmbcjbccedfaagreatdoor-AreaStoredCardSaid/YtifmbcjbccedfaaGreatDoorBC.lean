/- A part of the proof. -/
import Derived.Test.YtifmbcjbccedfaaGreatDoorAW
import Derived.Test.YtifmbcjbccedfaaGreatDoorAZ

set_option linter.unusedSimpArgs false
set_option linter.unusedVariables false
namespace Go.Proofs.YtifmbcjbccedfaaGreatDoor
open Go.RowKit Dsd
set_option maxRecDepth 100000 in
set_option maxHeartbeats 1000000 in
theorem SameN_any (q q' : Option Addr) (c c' : Nat) (n : Nd) (w : World) (h : Nents w q n.ents) (h' : Nents w q' n.ents) (hl : n.ents.length ≤ 1000000) :
   Calls Tryz.prog 45 #[ndV n q c, ndV n q' c'] w fun e w' => e = .returned (.bool true) ∧ Ext w w' := by
 have H1 := Lib.hid h
 have H2 := Lib.hid h'
 unfold ndV
 have i1 : (n.level != n.level) = false := by simp
 have i2 : (n.next != n.next) = false := by simp
 have i3 : ((n.ents.length : Int) != (n.ents.length : Int)) = false := by simp
 clear h h'
 generalize n.ents = L at *
 generalize n.level = lv at *
 generalize n.next = nx at *
 go_enter Tryz.func45, Tryz.ntmps45
 go_upto_region 1 with (fail)
 refine wp_name (fun w0 => Ext w w0 ∧ Blk w0 w.heap.size (.cells #[.int .i64 lv, .int .i64 nx, .slice q L.length c] 26) ∧ Blk w0 (w.heap.size + 1) (.cells #[.int .i64 lv, .int .i64 nx, .slice q' L.length c'] 26)) ⟨(Ext.alloc _ _).trans (Ext.alloc _ _), Blk.alloc (Blk.new w _) _, Blk.new1 _ _ _ (by simp)⟩ ?_
 rintro w0 ⟨he0, hb0, hb1⟩
 have a0 := Blk.val hb0 0 _ rfl
 have a1 := Blk.val hb0 1 _ rfl
 have a2 := Blk.val hb0 2 _ rfl
 have b0 := Blk.val hb1 0 _ rfl
 have b1 := Blk.val hb1 1 _ rfl
 have b2 := Blk.val hb1 2 _ rfl
 have la := Blk.lt hb0
 have lb := Blk.lt hb1
 have HB := Lib.hid (And.intro he0 (And.intro hb0 hb1))
 have HN := Lib.hid (And.intro (H1.out.ext he0) (H2.out.ext he0))
 clear hb0 hb1 he0
 go_upto_region 4 with (fail)
 go_loopw [5] (fun i wr => ∃ k : Nat, k ≤ L.length ∧ i = .int .i64 k ∧ Ext w0 wr) (fun i _ => L.length - (intOf i).toNat)
 case atStart => exact ⟨0, Nat.zero_le _, rfl, Ext.refl _⟩
 case round =>
   clear a0 a1 a2 b0 b1 b2 la lb
   obtain ⟨k, hk, rfl, hex⟩ := hrel
   have a2 := Blk.val (hex.blk _ _ HB.out.2.1) 2 _ rfl
   have b2 := Blk.val (hex.blk _ _ HB.out.2.2) 2 _ rfl
   have la := Blk.lt (hex.blk _ _ HB.out.2.1)
   have lb := Blk.lt (hex.blk _ _ HB.out.2.2)
   have Hex := Lib.hid hex
   by_cases hlt : k < L.length
   · have hltI : (k : Int) < L.length := by omega
     obtain ⟨g1, o1, rfl, hg1, hc1⟩ := (HN.out.1.ext hex).at k hlt
     obtain ⟨g2, o2, rfl, hg2, hc2⟩ := (HN.out.2.ext hex).at k hlt
     obtain ⟨x1, x2⟩ := hc1 k hlt
     obtain ⟨y1, y2⟩ := hc2 k hlt
     clear hc1 hc2
     generalize entAt L k = x at *
     go_upto_region 6 with (fail)
     clear hex
     go_quiet (fail)
     go_wp2
     go_roundw
     case rel => exact ⟨k + 1, by omega, by go_num, Hex.out.trans (Ext.drewN _ _)⟩
     case measure => simp [intOf]; omega
   · have hltI : decide ((k : Int) < L.length) = false := by simp; omega
     go_wp2
     go_ret
     exact ⟨rfl, HB.out.1.trans hex⟩
set_option maxRecDepth 100000 in
set_option maxHeartbeats 1000000 in
theorem SameA_anyW (a : Ar) (q : Option Addr) (c : Nat) (p : Option Addr) (m : Nat) (q' : Option Addr) (c' : Nat) (p' : Option Addr) (m' : Nat) (w : World) (hv : ArW w a q c p m) (hv' : ArW w a q' c' p' m') (h1 : a.nd.ents.length ≤ 1000000) (h2 : a.ivs.length ≤ 1000000) (h3 : ∀ i, (a.ivs.getD i []).length ≤ 1000000) :
   Calls Tryz.prog 15 #[.agg (arC a q c p m), .agg (arC a q' c' p' m')] w fun e w' => e = .returned (.bool true) ∧ Ext w w' := by
 have HS := Lib.hid (fun W (e : Ext w W) => SameN_any q q' c c' a.nd W (hv.ents.ext e) (hv'.ents.ext e) h1)
 unfold ndV at HS
 have H1 := Lib.hid hv.ivs
 have H2 := Lib.hid hv'.ivs
 have H3 := Lib.hid h3
 have i1 : (a.base != a.base) = false := by simp
 have i3 : ((a.ivs.length : Int) != (a.ivs.length : Int)) = false := by simp
 clear hv hv' h3
 go_enter Tryz.func15, Tryz.ntmps15
 go_upto_region 1 with (fail)
 refine wp_name (fun w0 => Ext w w0 ∧ ArAt w0 w.heap.size a q c p m ∧ ArAt w0 (w.heap.size + 1) a q' c' p' m') ⟨(Ext.alloc _ _).trans (Ext.alloc _ _), Blk.alloc (Blk.new w _) _, Blk.new1 _ _ _ (by simp)⟩ ?_
 rintro w0 ⟨he0, hb0, hb1⟩
 obtain ⟨a0, _, _, _, a4, la⟩ := hb0.cells
 obtain ⟨b0, _, _, _, b4, lb⟩ := hb1.cells
 go_upto_region 4 with (first
   | (refine wpList_part (o := ⟨some 13, _, _, _, _, _⟩) rfl 26 (.tmp 12) rfl w.heap.size 1 rfl _ (arC a q c p m) #[.int .i64 a.nd.level, .int .i64 a.nd.next, .slice q a.nd.ents.length c] _ hb0 (ar_part a q c p m) ndDesc rfl ndSize ?_)
   | (refine wpList_part (o := ⟨some 15, _, _, _, _, _⟩) rfl 26 (.tmp 14) rfl (w.heap.size + 1) 1 rfl _ (arC a q' c' p' m') #[.int .i64 a.nd.level, .int .i64 a.nd.next, .slice q' a.nd.ents.length c'] _ hb1 (ar_part a q' c' p' m') ndDesc rfl ndSize ?_)
   | (go_at_call 45; refine (HS.out _ he0).mono ?_; rintro e w1 ⟨rfl, he1⟩; obtain ⟨_, _, _, _, a4', la'⟩ := (hb0.ext he1).cells; obtain ⟨_, _, _, _, b4', lb'⟩ := (hb1.ext he1).cells))
 have HB := Lib.hid (And.intro (he0.trans he1) (And.intro (hb0.ext he1) (hb1.ext he1)))
 clear hb0 hb1 he0 he1 a0 a4 b0 b4 la lb a4' la' b4' lb' HS
 go_loopw [5] (fun i wr => ∃ k : Nat, k ≤ a.ivs.length ∧ i = .int .i64 k ∧ Ext w1 wr) (fun i _ => a.ivs.length - (intOf i).toNat)
 case atStart => exact ⟨0, Nat.zero_le _, rfl, Ext.refl _⟩
 case round =>
   obtain ⟨k, hk, rfl, hex⟩ := hrel
   obtain ⟨_, _, _, _, a4, la⟩ := (HB.out.2.1.ext hex).cells
   obtain ⟨_, _, _, _, b4, lb⟩ := (HB.out.2.2.ext hex).cells
   have Hex := Lib.hid hex
   by_cases hlt : k < a.ivs.length
   · have hltI : (k : Int) < a.ivs.length := by omega
     obtain ⟨g1, o1, v1, rfl, hg1, hc1, x1, d1, rfl, hs1, l1, l2, _⟩ := (H1.out.ext (HB.out.1.trans hex)).at k hlt
     obtain ⟨g2, o2, v2, rfl, hg2, hc2, x2, d2, rfl, hs2, m1, m2, _⟩ := (H2.out.ext (HB.out.1.trans hex)).at k hlt
     have HT : Hid (∀ W, Ext wr W → Calls Tryz.prog 46 #[.slice x1 (a.ivs.getD k []).length d1, .slice x2 (a.ivs.getD k []).length d2] W fun e w' => e = .returned (.bool true) ∧ Ext W w') := Lib.hid (fun W e => (Texts_any x1 x2 d1 (a.ivs.getD k []).length d2 (a.ivs.getD k []).length (a.ivs.getD k []) (a.ivs.getD k []) W (hs1.ext e) (hs2.ext e) rfl rfl (by have := H3.out k; unfold maxLen; omega) (by have := H3.out k; unfold maxLen; omega)).mono (by
       rintro e w' ⟨rfl, n, rfl⟩
       exact ⟨by simp, Ext.drewN _ _⟩))
     generalize a.ivs.getD k [] = L at *
     clear hex hs1 hs2
     go_upto_region 6 with (fail)
     refine wp_region_mk 200 (Ext.refl wr) (by kernel_rfl) (by kernel_rfl) (by kernel_rfl) ?_
     simp only [List.take_succ_cons, List.take_zero, List.take_nil, List.drop_succ_cons, List.drop_zero, List.drop_nil, List.map_cons, List.map_nil]
     repeat (first
       | (refine wpML_det (o := ⟨some 45, _, _, _, _, _⟩) (v := .bool true) rfl ?_ ?_
          · intro a w' he hr K hK
            simp [Reads, Oper.looksAt, Op.operands, Call.operands, factAt, Is] at hr
            go_simp
            refine (HT.out _ he).mono ?_
            rintro e w'' ⟨rfl, he''⟩
            exact hK _ he''
          simp only [setL, List.set_cons_succ, List.set_cons_zero])
       | (refine wpML_move _ _ rfl (by first | exact .inl rfl | exact .inr rfl) rfl (by first | exact Is.stable _ | exact AppF.stable _ | exact WrF.stable _ | exact PtrF.stable _ _ | exact IfcF.stable (Fresh.stable _ _ _) _ | exact PairF.stable (RowF.stable _ _ _ _) _ | exact RowF.stable _ _ _ _ | exact Fresh.stable _ _ _) ?_
          simp only [setL, List.set_cons_succ, List.set_cons_zero, List.getD_cons_succ, List.getD_cons_zero])
       | (refine wpML_moveC _ rfl (by first | exact .inl rfl | exact .inr rfl) ?_
          simp only [setL, List.set_cons_succ, List.set_cons_zero])
       | (apply wpML_det rfl
          · intro a w' he hr K hK
            simp [Reads, Oper.looksAt, Op.operands, Call.operands, factAt, Is] at hr
            have hx := he.cell
            go_simp
            try go_bits
            try (rw [if_neg (by omega)]; go_simp)
            first
              | exact hK _ (Ext.refl _)
          simp only [setL, List.set_cons_succ, List.set_cons_zero])
       | (apply wpML_det rfl
          · intro a w' he hr K hK
            simp [Reads, Oper.looksAt, Op.operands, Call.operands, factAt, Fresh] at hr
            obtain ⟨b, hr1, hr2⟩ := hr
            go_simp
            exact hK _ (Ext.refl _)
          simp only [setL, List.set_cons_succ, List.set_cons_zero]))
     intro w2 he2
     repeat (first | with_reducible refine rest_is _ _ _ _ ?_ | (with_reducible refine rest_fact _ _ _ _ ?_; intro _ _) | with_reducible refine rest_end _ _ ?_)
     simp only [List.reverse_cons, List.reverse_nil, List.nil_append, List.cons_append]
     clear hc1 hc2 hg1 hg2 l1 l2 m1 m2 a4 b4 la lb
     go_wp2_with fail
     go_roundw
     case rel => exact ⟨k + 1, by omega, by go_num, Hex.out.trans he2⟩
     case measure => simp [intOf]; omega
   · have hltI : decide ((k : Int) < a.ivs.length) = false := by simp; omega
     go_wp2
     go_ret
     exact ⟨rfl, HB.out.1.trans hex⟩
theorem SameA_any (a : Ar) (q : Option Addr) (c : Nat) (p : Option Addr) (m : Nat) (q' : Option Addr) (c' : Nat) (p' : Option Addr) (m' : Nat) (w : World) (hv : ArV w a q c p m) (hv' : ArV w a q' c' p' m') (h1 : a.nd.ents.length ≤ 1000000) (h2 : a.ivs.length ≤ 1000000) (h3 : ∀ i, (a.ivs.getD i []).length ≤ 1000000) :
   Calls Tryz.prog 15 #[.agg (arC a q c p m), .agg (arC a q' c' p' m')] w fun e w' => e = .returned (.bool true) ∧ Ext w w' := SameA_anyW a q c p m q' c' p' m' w hv.x hv'.x h1 h2 h3
end Go.Proofs.YtifmbcjbccedfaaGreatDoor
namespace Dsd
def rec49 (s : List UInt8) : List UInt8 := s ++ List.replicate 49 0
end Dsd
namespace Go.Proofs.YtifmbcjbccedfaaGreatDoor
open Go.RowKit Dsd
set_option maxRecDepth 100000 in
theorem record_any (s : List UInt8) (hs : s.length ≤ 1000) (w : World) : Calls Tryz.prog 26 #[.string ⟨s.toArray⟩] w fun e w' => e = .returned (.string ⟨(rec49 s).toArray⟩) ∧ Ext w w' := by
 obtain ⟨i0, hi, hz0, hz1, hz2⟩ := info_parts (show (Tryz.prog.info? 5).map (fun i => (i.zero, i.size, i.bytes)) = some (some (.int .u8 0), 1, 1) by kernel_rfl)
 have hmk := run_make_bytes (P := Tryz.prog) w 109 5 i0 49 Tryz.underlying109 hi hz0 hz1 hz2 (by omega)
 have hcv := run_new_string (P := Tryz.prog) w 109 9 5 49 49 (List.replicate 49 0) 5 Tryz.underlying109 Tryz.underlying5 Tryz.underlying9 (by simp)
 clear hi hz0 hz1 hz2
 have HR : Hid (rec49 s = s ++ List.replicate 49 0) := Lib.hid rfl
 have hRl : (List.replicate 49 (0 : UInt8)).length = 49 := List.length_replicate
 generalize List.replicate 49 (0 : UInt8) = R at *
 have hsum : s.length + R.length ≤ 2000 := by omega
 have e49 : ((49 : Nat) : Int) = 49 := rfl
 rw [e49] at hmk
 go_enter Tryz.func26, Tryz.ntmps26
 go_wp2
 go_ret
 exact ⟨by rw [HR.out]; rfl, Ext.alloc _ _⟩
end Go.Proofs.YtifmbcjbccedfaaGreatDoor
namespace Dsd
def exA : DS := ⟨0, 3, 0, 50, 0, 0, 1, 128, 2, 0, 0, 0, 0, 0, false, 0, [], [], 0, 0, false⟩
def exK (j : Nat) : List UInt8 := [[97], [99], [98]].getD j []
def exAr : Nat → Ar
 | 0 => newA 1
 | j + 1 => (Go.Proofs.YtifmbcjbccedfaaGreatDoor.putA exA (exAr j) (rec49 (exK j))).1
end Dsd
namespace Go.Proofs.YtifmbcjbccedfaaGreatDoor
open Go.RowKit Dsd
theorem exRec : ∀ j, j < 3 → recB exA (rec49 (exK j)) = true := by decide
set_option maxRecDepth 100000 in
theorem exPut : ∀ j, j < 3 → (putA exA (exAr j) (rec49 (exK j))).2 = true := by decide
set_option maxRecDepth 100000 in
theorem exEnd : (exAr 3).nd.ents = [([98], 2), ([], 3)] ∧ recsOf (exAr 3) = [rec49 [97], rec49 [98], rec49 [99]] := by decide
def PutF (a : Ar) : Fact := fun x w => ∃ q c p m, x = .tuple #[.agg (arC a q c p m), .bool true, .int .i64 0] ∧ ArV w a q c p m
theorem PutF.stable (a : Ar) : (PutF a).stable := fun _ _ _ he ⟨q, c, p, m, h1, h2⟩ => ⟨q, c, p, m, h1, h2.ext he⟩
def ArF (a : Ar) : Fact := fun x w => ∃ q c p m, x = .agg (arC a q c p m) ∧ ArV w a q c p m
theorem ArF.stable (a : Ar) : (ArF a).stable := fun _ _ _ he ⟨q, c, p, m, h1, h2⟩ => ⟨q, c, p, m, h1, h2.ext he⟩
theorem PutF.strong (a : Ar) (K : Kills) (B : Nat) : (PutF a).strong K (fun _ => TChg B 29) := fun _ _ _ _ _ ⟨_, _, _, hb, k⟩ ⟨q, c, p, m, h1, h2⟩ => ⟨q, c, p, m, h1, h2.chgA hb (by decide) (by decide) (by decide) k⟩
theorem ArF.strong (a : Ar) (K : Kills) (B : Nat) : (ArF a).strong K (fun _ => TChg B 29) := fun _ _ _ _ _ ⟨_, _, _, hb, k⟩ ⟨q, c, p, m, h1, h2⟩ => ⟨q, c, p, m, h1, h2.chgA hb (by decide) (by decide) (by decide) k⟩
def PtrAF (B : Nat) (a : Ar) : Fact := fun x w => ∃ b, x = .pointer (some ⟨b, 0, none⟩) ∧ ∃ q c p m, Blk w b (.cells (arC a q c p m) 29) ∧ ArV w a q c p m ∧ B ≤ b
theorem PtrAF.stable (B : Nat) (a : Ar) : (PtrAF B a).stable := fun _ _ _ he ⟨b, h1, q, c, p, m, h2, h3, h4⟩ => ⟨b, h1, q, c, p, m, he.blk _ _ h2, h3.ext he, h4⟩
theorem pair_cell {cu : Array Value} (h : cu.toList.take (3 * 2) = prCells [([97], rec49 [97]), ([98], rec49 [98]), ([99], rec49 [99])]) : cu[2]? = some (.string ⟨#[98]⟩) := by
 have h2 := congrArg (fun l : List Value => l[2]?) h
 rw [List.getElem?_take_of_lt (by omega), Array.getElem?_toList] at h2
 exact h2
set_option maxRecDepth 100000 in
theorem exArea : ∀ j, j < 4 → areaB exA (exAr j) = true ∧ ∀ x ∈ (exAr j).nd.ents, (x.1.length : Int) ≤ exA.keyLength := by decide
theorem ex_inv (j : Nat) (h : j ≤ 3) : AInv exA (exAr j) := ⟨area_iff.1 (exArea j (by omega)).1, (exArea j (by omega)).2⟩
theorem dsBuiltA : Tryz.prog.built 23 [(1, .int .i64 3), (7, .int .i64 128), (3, .int .i64 50), (6, .int .i64 1), (8, .int .i64 2)] = some #[.int .i64 exA.id, .int .i64 exA.org, .int .i64 exA.format, .int .i64 exA.length, .int .i64 exA.block, .int .i64 exA.keyAt, .int .i64 exA.keyLength, .int .i64 exA.interval, .int .i64 exA.area, .int .i64 exA.freeInterval, .int .i64 exA.freeArea, .int .i64 exA.base, .int .i64 exA.altAt, .int .i64 exA.altLength, .bool exA.unique, .int .i64 exA.cls, .string ⟨exA.volume.toArray⟩, .string ⟨exA.owner.toArray⟩, .int .i64 exA.created, .int .i64 exA.expires, .bool exA.archived] := by kernel_rfl
theorem ds_oneA (d : DS) : (#[.int .i64 d.id, .int .i64 d.org, .int .i64 d.format, .int .i64 d.length, .int .i64 d.block, .int .i64 d.keyAt, .int .i64 d.keyLength, .int .i64 d.interval, .int .i64 d.area, .int .i64 d.freeInterval, .int .i64 d.freeArea, .int .i64 d.base, .int .i64 d.altAt, .int .i64 d.altLength, .bool d.unique, .int .i64 d.cls, .string ⟨d.volume.toArray⟩, .string ⟨d.owner.toArray⟩, .int .i64 d.created, .int .i64 d.expires, .bool d.archived] : Array Value).all (·.oneCell') = true := by simp [Value.oneCell']
set_option maxRecDepth 100000 in
set_option maxHeartbeats 4000000 in
theorem awakeA_any (w : World) : Calls Tryz.prog 5 #[] w fun e w' => e = .returned (.bool true) ∧ Ext w w' := by
 have HN := Lib.hid (fun W => NewA_any 1 W (by decide))
 go_enter Tryz.func5, Tryz.ntmps5
 go_upto_region 3 with (first
   | (refine wpList_bld (o := ⟨some 9, _, _, _, _, _⟩) rfl 23 #[(1, .const (.int .i64 3)), (7, .const (.int .i64 128)), (3, .const (.int .i64 50)), (6, .const (.int .i64 1)), (8, .const (.int .i64 2))] rfl [(1, .int .i64 3), (7, .int .i64 128), (3, .int .i64 50), (6, .int .i64 1), (8, .int .i64 2)] rfl _ dsBuiltA ?_)
   | (refine wpList_put rfl 23 (.tmp 1) (.tmp 9) rfl _ #[.int .i64 exA.id, .int .i64 exA.org, .int .i64 exA.format, .int .i64 exA.length, .int .i64 exA.block, .int .i64 exA.keyAt, .int .i64 exA.keyLength, .int .i64 exA.interval, .int .i64 exA.area, .int .i64 exA.freeInterval, .int .i64 exA.freeArea, .int .i64 exA.base, .int .i64 exA.altAt, .int .i64 exA.altLength, .bool exA.unique, .int .i64 exA.cls, .string ⟨exA.volume.toArray⟩, .string ⟨exA.owner.toArray⟩, .int .i64 exA.created, .int .i64 exA.expires, .bool exA.archived] rfl rfl _ _ (Blk.new w _) dsSize rfl (ds_oneA exA) ?_; intro w1 hd1 hc1)
   | (go_at_call 24; refine (HN.out _).mono ?_; rintro e w2 ⟨he2, q0, c0, p0, m0, rfl, hv0⟩)
   | (refine wpList_put rfl 29 (.tmp 2) (.tmp 10) rfl _ (arC (newA 1) q0 c0 p0 m0) rfl rfl _ _ (Blk.new w2 _) arSize rfl (ar_one ..) ?_; intro w3 ha3 hc3))
 have hE3 : Ext w w3 := (hc1.ext (Ext.alloc _ _) (Nat.le_refl _)).trans (he2.trans (hc3.ext (Ext.alloc _ _) (Nat.le_refl _)))
 have hE13 : Ext w1 w3 := he2.trans (hc3.ext (Ext.alloc _ _) (Nat.le_refl _))
 have hE23 : Ext w2 w3 := hc3.ext (Ext.alloc _ _) (Nat.le_refl _)
 refine wp_name (fun w4 => Ext w w4 ∧ DsAt w4 w.heap.size exA ∧ ArAt w4 w2.heap.size (exAr 0) q0 c0 p0 m0 ∧ ArV w4 (exAr 0) q0 c0 p0 m0 ∧ w.heap.size < w2.heap.size ∧ w2.heap.size < w4.heap.size) ⟨hE3, hE13.blk _ _ hd1, ha3, hv0.ext hE23, by have := Blk.lt (he2.blk _ _ hd1); omega, Blk.lt ha3⟩ ?_
 clear hE3 hE13 hE23 hd1 hc1 he2 hv0 ha3 hc3 HN
 generalize w2.heap.size = ab at *
 rintro w4 ⟨hx4, hd4, ha4, hv4, hab, hab4⟩
 go_upto_region 4 with (fail)
 refine wp_name (fun w5 => Ext w4 w5 ∧ Blk w5 w4.heap.size (.cells #[.string ⟨#[97]⟩, .string ⟨#[99]⟩, .string ⟨#[98]⟩] 9)) ⟨Ext.alloc _ _, Blk.new _ _⟩ ?_
 rintro w5 ⟨he5, hl5⟩
 have hlab : ab < w4.heap.size := hab4
 generalize w4.heap.size = lb at *
 have HINV : Hid (∀ j, j ≤ 3 → AInv exA (exAr j)) := Lib.hid ex_inv
 have HPut : Hid (∀ j, j < 3 → ∀ q c p m W, ArV W (exAr j) q c p m → Calls Tryz.prog 25 #[.agg #[.int .i64 exA.id, .int .i64 exA.org, .int .i64 exA.format, .int .i64 exA.length, .int .i64 exA.block, .int .i64 exA.keyAt, .int .i64 exA.keyLength, .int .i64 exA.interval, .int .i64 exA.area, .int .i64 exA.freeInterval, .int .i64 exA.freeArea, .int .i64 exA.base, .int .i64 exA.altAt, .int .i64 exA.altLength, .bool exA.unique, .int .i64 exA.cls, .string ⟨exA.volume.toArray⟩, .string ⟨exA.owner.toArray⟩, .int .i64 exA.created, .int .i64 exA.expires, .bool exA.archived], .agg (arC (exAr j) q c p m), .string ⟨(rec49 (exK j)).toArray⟩] W fun e W' => Ext W W' ∧ ∃ v, e = .returned v ∧ PutF (exAr (j + 1)) v W') := Lib.hid (fun j hj q c p m W hv => (PutA_any exA (exAr j) q c p m (rec49 (exK j)) W (ex_inv j (by omega)) hv).mono (by
   rintro e W' ⟨he, hr⟩
   rw [if_pos (exRec j hj)] at hr
   obtain ⟨a', ok, q', c', p', m', rfl, hv', hI, _, _, _, _, hp⟩ := hr
   have h2 := exPut j hj
   have h1 : a' = exAr (j + 1) := by show a' = (putA exA (exAr j) (rec49 (exK j))).1; rw [hp]
   rw [hp] at h2
   have h3 : ok = true := h2
   subst h1; subst h3
   exact ⟨he, _, rfl, q', c', p', m', rfl, hv'⟩))
 go_loopw [13] (fun i wr => ∃ j : Nat, j ≤ 3 ∧ i = .int .i64 j ∧ Ext w wr ∧ DsAt wr w.heap.size exA ∧ Blk wr lb (.cells #[.string ⟨#[97]⟩, .string ⟨#[99]⟩, .string ⟨#[98]⟩] 9) ∧ ∃ q c p m, ArAt wr ab (exAr j) q c p m ∧ ArV wr (exAr j) q c p m) (fun i _ => 3 - (intOf i).toNat)
 case atStart => exact ⟨0, Nat.zero_le _, rfl, hx4.trans he5, hd4.ext he5, hl5, q0, c0, p0, m0, ha4.ext he5, hv4.ext he5⟩
 case round =>
   clear hx4 hd4 ha4 hv4 hl5 he5
   obtain ⟨j, hj, rfl, hx, hd, hl, q1, c1, p1, m1, ha, hv⟩ := hrel
   by_cases hlt : j < 3
   · have hltI : decide ((j : Int) < 3) = true := decide_eq_true (by omega)
     have hcell : wr.cell? ⟨lb, j, none⟩ = some (.string ⟨(exK j).toArray⟩) := by
       rcases (show j = 0 ∨ j = 1 ∨ j = 2 by omega) with rfl | rfl | rfl
       · exact Blk.val hl 0 _ rfl
       · exact Blk.val hl 1 _ rfl
       · exact Blk.val hl 2 _ rfl
     have hll := Blk.lt hl
     have HPj := Lib.hid (HPut.out j hlt q1 c1 p1 m1)
     have HRj := Lib.hid (record_any (exK j) (by rcases (show j = 0 ∨ j = 1 ∨ j = 2 by omega) with rfl | rfl | rfl <;> decide))
     generalize exK j = kj at *
     generalize rec49 kj = rj at *
     have HS := Lib.hid (And.intro hx (And.intro hd (And.intro hl (And.intro ha hv))))
     clear hx hd hl ha hv
     go_upto_region 6 with (fail)
     refine wp_region_pk 200 [(10, [(9, 5)])] (Ext.refl wr) (by kernel_rfl) (by kernel_rfl) (by kernel_rfl) (by kernel_rfl) (by kernel_rfl) (by kernel_rfl) (gok_one _ _ 10 9 5 (TChg wr.heap.size 29) (PtrAF wr.heap.size (exAr (j + 1))) (fun _ _ h => h.below) (PtrAF.stable _ _) (by kernel_rfl)) ?_
     simp only [List.take_succ_cons, List.take_zero, List.take_nil, List.drop_succ_cons, List.drop_zero, List.drop_nil, List.map_cons, List.map_nil]
     repeat (first
       | (refine wpPL_step (o := ⟨some 5, _, _, _, _, _⟩) (PtrF wr.heap.size (.cells arZ 29)) (PtrF.stable _ _) (by first | exact .inr (AppF.strong _ _ _ _ (by decide)) | exact .inr (WrF.strong _ _ _ _ (by decide)) | exact .inr (RowsF.strong _ _ _ _ _ _ _ _ (by decide)) | exact .inr (Fresh.strong _ _ _ _ _ _ _ (by decide)) | exact .inr (IfcF.strong (Fresh.strong _ _ _ _ _ _ _ (by decide)) _) | exact .inl (by kernel_rfl)) (by kernel_rfl) (by first | exact .inl rfl | exact .inr ⟨_, _, _, rfl, rfl, rfl⟩) ?_ ?_
          · intro a w' he hr K hK
            go_simp
            exact hK _ _ (Ext.alloc _ _) ⟨_, rfl, Blk.new _ _, he.size⟩
          simp only [setL, List.set_cons_succ, List.set_cons_zero])
       | (refine wpPL_det (o := ⟨some 18, _, _, _, _, _⟩) (v := .agg #[.int .i64 exA.id, .int .i64 exA.org, .int .i64 exA.format, .int .i64 exA.length, .int .i64 exA.block, .int .i64 exA.keyAt, .int .i64 exA.keyLength, .int .i64 exA.interval, .int .i64 exA.area, .int .i64 exA.freeInterval, .int .i64 exA.freeArea, .int .i64 exA.base, .int .i64 exA.altAt, .int .i64 exA.altLength, .bool exA.unique, .int .i64 exA.cls, .string ⟨exA.volume.toArray⟩, .string ⟨exA.owner.toArray⟩, .int .i64 exA.created, .int .i64 exA.expires, .bool exA.archived]) (by kernel_rfl) (by first | exact .inl rfl | exact .inr ⟨_, _, _, rfl, rfl, rfl⟩) ?_ ?_
          · intro a w' he hr K hK
            simp [Reads, Oper.looksAt, Op.operands, factAt, Is] at hr
            exact wp_load_row 23 (.tmp 1) rfl (w.heap.size) (by go_simp) _ _ _ _ (he.blk _ _ HS.out.2.1) dsDesc rfl dsSize (hK _ (Ext.refl _))
          simp only [setL, List.set_cons_succ, List.set_cons_zero])
       | (refine wpPL_det (o := ⟨some 19, _, _, _, _, _⟩) (v := .agg (arC (exAr j) q1 c1 p1 m1)) (by kernel_rfl) (by first | exact .inl rfl | exact .inr ⟨_, _, _, rfl, rfl, rfl⟩) ?_ ?_
          · intro a w' he hr K hK
            simp [Reads, Oper.looksAt, Op.operands, factAt, Is] at hr
            exact wp_load_row 29 (.tmp 2) rfl (ab) (by go_simp) _ _ _ _ (he.blk _ _ HS.out.2.2.2.1) arDesc rfl arSize (hK _ (Ext.refl _))
          simp only [setL, List.set_cons_succ, List.set_cons_zero])
       | (refine wpPL_det (o := ⟨some 21, _, _, _, _, _⟩) (v := .string ⟨rj.toArray⟩) (by kernel_rfl) (by first | exact .inl rfl | exact .inr ⟨_, _, _, rfl, rfl, rfl⟩) ?_ ?_
          · intro a w' he hr K hK
            simp [Reads, Oper.looksAt, Op.operands, Call.operands, factAt, Is] at hr
            go_simp
            refine (HRj.out _).mono ?_
            rintro e w'' ⟨rfl, he''⟩
            exact hK _ he''
          simp only [setL, List.set_cons_succ, List.set_cons_zero])
       | (refine wpPL_step (o := ⟨some 22, _, _, _, _, _⟩) (PutF (exAr (j + 1))) (PutF.stable _) (.inr (PutF.strong _ _ _)) (by kernel_rfl) (by first | exact .inl rfl | exact .inr ⟨_, _, _, rfl, rfl, rfl⟩) ?_ ?_
          · intro a w' he hr K hK
            simp [Reads, Oper.looksAt, Op.operands, Call.operands, factAt, Is] at hr
            go_simp
            refine (HPj.out _ (HS.out.2.2.2.2.ext he)).mono ?_
            rintro e w'' ⟨he', v, rfl, hf⟩
            exact hK _ _ he' hf
          simp only [setL, List.set_cons_succ, List.set_cons_zero])
       | (refine wpPL_move (o := ⟨some 17, _, _, _, _, _⟩) _ (PutF (exAr (j + 1))) (by kernel_rfl) (by first | exact .inl rfl | exact .inr ⟨_, _, _, rfl, rfl, rfl⟩) (by first | exact .inl rfl | exact .inr rfl) rfl (PutF.stable _) (.inr (PutF.strong _ _ _)) ?_
          simp only [setL, List.set_cons_succ, List.set_cons_zero, List.getD_cons_succ, List.getD_cons_zero])
       | (refine wpPL_step (o := ⟨some 23, _, _, _, _, _⟩) (ArF (exAr (j + 1))) (ArF.stable _) (.inr (ArF.strong _ _ _)) (by kernel_rfl) (by first | exact .inl rfl | exact .inr ⟨_, _, _, rfl, rfl, rfl⟩) ?_ ?_
          · intro a w' he hr K hK
            obtain ⟨q9, c9, p9, m9, h1, h9⟩ := hr 17 (by simp [Oper.looksAt, Op.operands])
            simp at h1
            go_simp
            exact hK _ _ (Ext.refl _) ⟨q9, c9, p9, m9, rfl, h9⟩
          simp only [setL, List.set_cons_succ, List.set_cons_zero])
       | (refine wpPL_det (o := ⟨some 24, _, _, _, _, _⟩) (v := .bool true) (by kernel_rfl) (by first | exact .inl rfl | exact .inr ⟨_, _, _, rfl, rfl, rfl⟩) ?_ ?_
          · intro a w' he hr K hK
            obtain ⟨q9, c9, p9, m9, h1, h9⟩ := hr 17 (by simp [Oper.looksAt, Op.operands])
            simp at h1
            go_simp
            exact hK _ (Ext.refl _)
          simp only [setL, List.set_cons_succ, List.set_cons_zero])
       | (refine wpPL_det (o := ⟨some 25, _, _, _, _, _⟩) (v := .int .i64 0) (by kernel_rfl) (by first | exact .inl rfl | exact .inr ⟨_, _, _, rfl, rfl, rfl⟩) ?_ ?_
          · intro a w' he hr K hK
            obtain ⟨q9, c9, p9, m9, h1, h9⟩ := hr 17 (by simp [Oper.looksAt, Op.operands])
            simp at h1
            go_simp
            exact hK _ (Ext.refl _)
          simp only [setL, List.set_cons_succ, List.set_cons_zero])
       | (refine wpPL_pivot (o := ⟨none, _, _, _, _, _⟩) Any Any.stable (.inr Any.strong) (by kernel_rfl) (by first | exact .inl rfl | exact .inr ⟨_, _, _, rfl, rfl, rfl⟩) ?_ ?_
          · intro a w' he hr K hK
            obtain ⟨b, h1, h2, h3⟩ := hr 5 (by simp [Oper.looksAt, Op.operands])
            obtain ⟨q9, c9, p9, m9, hv, h9⟩ := hr 23 (by simp [Oper.looksAt, Op.operands])
            refine wp_store_row 29 (.tmp 5) (.tmp 23) rfl b (arC _ q9 c9 p9 m9) h1 hv _ _ h2 arSize rfl (ar_one ..) ?_
            exact hK _ _ ⟨b, _, h3, h2, Chg.setRow⟩ trivial (fun x hx _ y hy => by simp at hx; subst hx; simp at hy; subst hy; exact ⟨b, h1, q9, c9, p9, m9, Blk.setRow h2, h9.chgA h2 (by decide) (by decide) (by decide) Chg.setRow, h3⟩)
          simp only [setL, List.set_cons_succ, List.set_cons_zero])
       | (refine wpPL_move _ _ (by kernel_rfl) (by first | exact .inl rfl | exact .inr ⟨_, _, _, rfl, rfl, rfl⟩) (by first | exact .inl rfl | exact .inr rfl) rfl (by first | exact Is.stable _ | exact RowsF.stable _ _ _ _ _ | exact NoneF.stable _ _ | exact Fresh.stable _ _ _ | exact AppF.stable _ | exact WrF.stable _ | exact PtrF.stable _ _ | exact PlF.stable _ _) (by first | exact .inr (Is.strong _ _ _) | exact .inr (AppF.strong _ _ _ _ (by decide)) | exact .inr (WrF.strong _ _ _ _ (by decide)) | exact .inr (RowsF.strong _ _ _ _ _ _ _ _ (by decide)) | exact .inl (by kernel_rfl)) ?_
          simp only [setL, List.set_cons_succ, List.set_cons_zero, List.getD_cons_succ, List.getD_cons_zero])
       | (apply wpPL_det (by kernel_rfl) (by first | exact .inl rfl | exact .inr ⟨_, _, _, rfl, rfl, rfl⟩)
          · intro a w' he hr K hK
            simp [Reads, Oper.looksAt, Op.operands, Call.operands, factAt, Is] at hr
            have hx := he.cell
            go_simp
            try go_bits
            try (rw [if_neg (by omega)]; go_simp)
            first
              | exact hK _ (Ext.refl _)
          simp only [setL, List.set_cons_succ, List.set_cons_zero]))
     intro w2 he2
     simp only [killL, killIn, List.foldl_cons, List.foldl_nil, List.set_cons_succ, List.set_cons_zero]
     repeat (first | with_reducible refine rest_is _ _ _ _ ?_ | (with_reducible refine rest_fact _ _ _ _ ?_; intro _ _) | with_reducible refine rest_end _ _ ?_)
     simp only [List.reverse_cons, List.reverse_nil, List.nil_append, List.cons_append]
     rename_i x5 h5 x17 h17 x22 h22 x23 h23
     clear h17 h22 h23
     obtain ⟨b, rfl, q2, c2, p2, m2, hb2, hv2, hbB⟩ := h5
     have ha2 := (HS.out.2.2.2.1).ext he2
     have habr := Blk.lt HS.out.2.2.2.1
     have HX := Lib.hid (HS.out.1.trans he2)
     have HD := Lib.hid (HS.out.2.1.ext he2)
     have HLl := Lib.hid (he2.blk _ _ HS.out.2.2.1)
     have HV2 := Lib.hid hv2
     clear hv2 he2 HS HPj HRj
     go_wp2_with (first
       | (refine wpList_row (o := ⟨some 32, _, _, _, _, _⟩) rfl 29 (.tmp 5) rfl _ rfl _ _ _ hb2 arDesc rfl arSize ?_)
       | (refine wpList_put rfl 29 (.tmp 2) (.tmp 32) rfl _ (arC (exAr (j + 1)) q2 c2 p2 m2) rfl rfl _ _ ha2 arSize rfl (ar_one ..) ?_; intro w3 ha3 hc3))
     have Hrel := Lib.hid (And.intro (hc3.ext HX.out (by omega)) (And.intro (hc3.blk HD.out (by omega)) (And.intro (hc3.blk HLl.out (by omega)) (And.intro ha3 (HV2.out.chgA ha2 (by decide) (by decide) (by decide) hc3)))))
     clear hb2 ha2 ha3 hc3
     go_roundw
     case rel => exact ⟨j + 1, by omega, by go_num, Hrel.out.1, Hrel.out.2.1, Hrel.out.2.2.1, q2, c2, p2, m2, Hrel.out.2.2.2.1, Hrel.out.2.2.2.2⟩
     case measure => simp [intOf]; omega
   · have hj3 : j = 3 := by omega
     subst hj3
     have hin := HINV.out 3 (Nat.le_refl _)
     have HPr := Lib.hid (PairsA_any exA (exAr 3) q1 c1 p1 m1 wr hin.spec hv)
     have HVa := Lib.hid (fun W (e : Ext wr W) => ValidA_any exA (exAr 3) q1 c1 p1 m1 W hin.spec (hv.ext e))
     have hrl : (recsOf (exAr 3)).length = 3 := by rw [exEnd.2]; rfl
     have hpc : prCells (pairsD exA (recsOf (exAr 3))) = prCells [([97], rec49 [97]), ([98], rec49 [98]), ([99], rec49 [99])] := by rw [exEnd.2]; rfl
     rw [hrl, hpc] at HPr
     have hel : (exAr 3).nd.ents.length = 2 := by rw [exEnd.1]; rfl
     have hen := hv.ents
     have HS := Lib.hid (And.intro hx (And.intro hd (And.intro ha hv)))
     clear hrl hpc hx hl hv HPut HINV hin
     go_upto_region 12 with (first
       | (refine wpList_ds (o := ⟨some 34, _, _, _, _, _⟩) rfl (.tmp 1) rfl _ rfl exA hd ?_)
       | (refine wpList_row (o := ⟨some 35, _, _, _, _, _⟩) rfl 29 (.tmp 2) rfl _ rfl _ _ _ ha arDesc rfl arSize ?_)
       | (go_at_call 13; refine HPr.out.mono ?_; rintro e w2 ⟨he2, v2, rfl, ho2⟩))
     have Hd2 := Lib.hid (HS.out.2.1.ext he2)
     have Ha2 := Lib.hid (HS.out.2.2.1.ext he2)
     have hd2 := Hd2.out
     have ha2 := Ha2.out
     have HP2 := Lib.hid ho2
     have Hx2 := Lib.hid (HS.out.1.trans he2)
     have HV2 := Lib.hid (HVa.out _ he2)
     have HE2 := Lib.hid (fun W (e : Ext w2 W) => hen.ext (he2.trans e))
     obtain ⟨q4, c4, rfl⟩ := own_slice ho2
     clear HPr ho2 he2 hd ha
     go_wp2_with (first
       | (refine wpList_ds (o := ⟨some 37, _, _, _, _, _⟩) rfl (.tmp 1) rfl _ rfl exA hd2 ?_)
       | (refine wpList_row (o := ⟨some 38, _, _, _, _, _⟩) rfl 29 (.tmp 2) rfl _ rfl _ _ _ ha2 arDesc rfl arSize ?_)
       | (go_at_call 10; refine HV2.out.mono ?_; rintro e w3 ⟨rfl, he3⟩; have ha3 := Ha2.out.ext he3; obtain ⟨_, _, _, k3, _, l3⟩ := ha3.cells; rw [hel] at k3; have hp3 := own_ext HP2.out he3; obtain ⟨g3, cu3, rfl, _, hb3, _, _, _, ht3⟩ := own_parts hp3 (by omega); have hen3 := HE2.out w3 he3; rw [exEnd.1] at hen3; obtain ⟨g5, o5, rfl, hg5, hc5⟩ := hen3.at 0 (by decide); have n0 : w3.cell? ⟨g5, o5, none⟩ = some (.string ⟨#[98]⟩) := (hc5 0 (by decide)).1; have n1 : w3.cell? ⟨g5, o5 + 1, none⟩ = some (.int .i64 2) := (hc5 0 (by decide)).2; have n2 : w3.cell? ⟨g5, o5 + 2, none⟩ = some (.string ⟨#[]⟩) := (hc5 1 (by decide)).1; have n3 : w3.cell? ⟨g5, o5 + 2 + 1, none⟩ = some (.int .i64 3) := (hc5 1 (by decide)).2; have hcu : cu3[2]? = some (.string ⟨#[98]⟩) := pair_cell ht3; have n4 := Blk.val hb3 2 _ hcu; have l4 := Blk.lt hb3; clear hen3 hc5 ht3 hcu))
     go_ret
     exact ⟨rfl, Hx2.out.trans he3⟩
end Go.Proofs.YtifmbcjbccedfaaGreatDoor
