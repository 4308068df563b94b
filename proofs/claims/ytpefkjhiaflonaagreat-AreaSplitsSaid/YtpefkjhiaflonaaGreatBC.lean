/- The walks of the reference's Same: of nodes, of areas. -/
import Derived.Test.YtpefkjhiaflonaaGreatAW0
import Derived.Test.YtpefkjhiaflonaaGreatPiv
import Derived.Deep.QuietTactic
import Derived.BigQuiet
set_option linter.unusedSimpArgs false
set_option linter.unusedVariables false
namespace Go.Proofs.YtpefkjhiaflonaaGreat
open Go.RowKit Dsd
set_option maxRecDepth 100000 in
set_option maxHeartbeats 1000000 in
/-- Two nodes that are equal: Same returns true. -/
theorem SameN_any (q q' : Option Addr) (c c' : Nat) (n : Nd) (w : World) (h : Nents w q n.ents) (h' : Nents w q' n.ents) (hl : n.ents.length ≤ 1000000) :
    Calls Tryz.prog 35 #[ndV n q c, ndV n q' c'] w fun e w' => e = .returned (.bool true) ∧ Ext w w' := by
  have H1 := Lib.hid h
  have H2 := Lib.hid h'
  unfold ndV
  have i1 : (n.level != n.level) = false := by simp
  have i2 : (n.next != n.next) = false := by simp
  have i3 : ((n.ents.length : Int) != (n.ents.length : Int)) = false := by simp
  clear h h'
  generalize n.ents = L at *
  generalize n.level = lv at *
  generalize n.next = nx at *
  go_enter Tryz.func35, Tryz.ntmps35
  go_upto_region 1 with (fail)
  refine wp_name (fun w0 => Ext w w0 ∧ Blk w0 w.heap.size (.cells #[.int .i64 lv, .int .i64 nx, .slice q L.length c] 26) ∧ Blk w0 (w.heap.size + 1) (.cells #[.int .i64 lv, .int .i64 nx, .slice q' L.length c'] 26)) ⟨(Ext.alloc _ _).trans (Ext.alloc _ _), Blk.alloc (Blk.new w _) _, Blk.new1 _ _ _ (by simp)⟩ ?_
  rintro w0 ⟨he0, hb0, hb1⟩
  have a0 := Blk.val hb0 0 _ rfl
  have a1 := Blk.val hb0 1 _ rfl
  have a2 := Blk.val hb0 2 _ rfl
  have b0 := Blk.val hb1 0 _ rfl
  have b1 := Blk.val hb1 1 _ rfl
  have b2 := Blk.val hb1 2 _ rfl
  have la := Blk.lt hb0
  have lb := Blk.lt hb1
  have HB := Lib.hid (And.intro he0 (And.intro hb0 hb1))
  have HN := Lib.hid (And.intro (H1.out.ext he0) (H2.out.ext he0))
  clear hb0 hb1 he0
  go_upto_region 4 with (fail)
  go_loopw [5] (fun i wr => ∃ k : Nat, k ≤ L.length ∧ i = .int .i64 k ∧ Ext w0 wr) (fun i _ => L.length - (intOf i).toNat)
  case atStart => exact ⟨0, Nat.zero_le _, rfl, Ext.refl _⟩
  case round =>
    clear a0 a1 a2 b0 b1 b2 la lb
    obtain ⟨k, hk, rfl, hex⟩ := hrel
    have a2 := Blk.val (hex.blk _ _ HB.out.2.1) 2 _ rfl
    have b2 := Blk.val (hex.blk _ _ HB.out.2.2) 2 _ rfl
    have la := Blk.lt (hex.blk _ _ HB.out.2.1)
    have lb := Blk.lt (hex.blk _ _ HB.out.2.2)
    have Hex := Lib.hid hex
    by_cases hlt : k < L.length
    · have hltI : (k : Int) < L.length := by omega
      obtain ⟨g1, o1, rfl, hg1, hc1⟩ := (HN.out.1.ext hex).at k hlt
      obtain ⟨g2, o2, rfl, hg2, hc2⟩ := (HN.out.2.ext hex).at k hlt
      obtain ⟨x1, x2⟩ := hc1 k hlt
      obtain ⟨y1, y2⟩ := hc2 k hlt
      clear hc1 hc2
      generalize entAt L k = x at *
      go_upto_region 6 with (fail)
      clear hex
      go_quiet (fail)
      go_wp2
      go_roundw
      case rel => exact ⟨k + 1, by omega, by go_num, Hex.out.trans (Ext.drewN _ _)⟩
      case measure => simp [intOf]; omega
    · have hltI : decide ((k : Int) < L.length) = false := by simp; omega
      go_wp2
      go_ret
      exact ⟨rfl, HB.out.1.trans hex⟩
set_option maxRecDepth 100000 in
set_option maxHeartbeats 1000000 in
/-- Two areas that are equal: Same returns true. -/
theorem SameA_anyW (a : Ar) (q : Option Addr) (c : Nat) (p : Option Addr) (m : Nat) (q' : Option Addr) (c' : Nat) (p' : Option Addr) (m' : Nat) (w : World) (hv : ArW w a q c p m) (hv' : ArW w a q' c' p' m') (h1 : a.nd.ents.length ≤ 1000000) (h2 : a.ivs.length ≤ 1000000) (h3 : ∀ i, (a.ivs.getD i []).length ≤ 1000000) :
    Calls Tryz.prog 12 #[.agg (arC a q c p m), .agg (arC a q' c' p' m')] w fun e w' => e = .returned (.bool true) ∧ Ext w w' := by
  have HS := Lib.hid (fun W (e : Ext w W) => SameN_any q q' c c' a.nd W (hv.ents.ext e) (hv'.ents.ext e) h1)
  unfold ndV at HS
  have H1 := Lib.hid hv.ivs
  have H2 := Lib.hid hv'.ivs
  have H3 := Lib.hid h3
  have i1 : (a.base != a.base) = false := by simp
  have i3 : ((a.ivs.length : Int) != (a.ivs.length : Int)) = false := by simp
  clear hv hv' h3
  go_enter Tryz.func12, Tryz.ntmps12
  go_upto_region 1 with (fail)
  refine wp_name (fun w0 => Ext w w0 ∧ ArAt w0 w.heap.size a q c p m ∧ ArAt w0 (w.heap.size + 1) a q' c' p' m') ⟨(Ext.alloc _ _).trans (Ext.alloc _ _), Blk.alloc (Blk.new w _) _, Blk.new1 _ _ _ (by simp)⟩ ?_
  rintro w0 ⟨he0, hb0, hb1⟩
  obtain ⟨a0, _, _, _, a4, la⟩ := hb0.cells
  obtain ⟨b0, _, _, _, b4, lb⟩ := hb1.cells
  go_upto_region 4 with (first
    | (refine wpList_part (o := ⟨some 13, _, _, _, _, _⟩) rfl 26 (.tmp 12) rfl w.heap.size 1 rfl _ (arC a q c p m) #[.int .i64 a.nd.level, .int .i64 a.nd.next, .slice q a.nd.ents.length c] _ hb0 (ar_part a q c p m) ndDesc rfl ndSize ?_)
    | (refine wpList_part (o := ⟨some 15, _, _, _, _, _⟩) rfl 26 (.tmp 14) rfl (w.heap.size + 1) 1 rfl _ (arC a q' c' p' m') #[.int .i64 a.nd.level, .int .i64 a.nd.next, .slice q' a.nd.ents.length c'] _ hb1 (ar_part a q' c' p' m') ndDesc rfl ndSize ?_)
    | (go_at_call 35; refine (HS.out _ he0).mono ?_; rintro e w1 ⟨rfl, he1⟩; obtain ⟨_, _, _, _, a4', la'⟩ := (hb0.ext he1).cells; obtain ⟨_, _, _, _, b4', lb'⟩ := (hb1.ext he1).cells))
  have HB := Lib.hid (And.intro (he0.trans he1) (And.intro (hb0.ext he1) (hb1.ext he1)))
  clear hb0 hb1 he0 he1 a0 a4 b0 b4 la lb a4' la' b4' lb' HS
  go_loopw [5] (fun i wr => ∃ k : Nat, k ≤ a.ivs.length ∧ i = .int .i64 k ∧ Ext w1 wr) (fun i _ => a.ivs.length - (intOf i).toNat)
  case atStart => exact ⟨0, Nat.zero_le _, rfl, Ext.refl _⟩
  case round =>
    obtain ⟨k, hk, rfl, hex⟩ := hrel
    obtain ⟨_, _, _, _, a4, la⟩ := (HB.out.2.1.ext hex).cells
    obtain ⟨_, _, _, _, b4, lb⟩ := (HB.out.2.2.ext hex).cells
    have Hex := Lib.hid hex
    by_cases hlt : k < a.ivs.length
    · have hltI : (k : Int) < a.ivs.length := by omega
      obtain ⟨g1, o1, v1, rfl, hg1, hc1, x1, d1, rfl, hs1, l1, l2, _⟩ := (H1.out.ext (HB.out.1.trans hex)).at k hlt
      obtain ⟨g2, o2, v2, rfl, hg2, hc2, x2, d2, rfl, hs2, m1, m2, _⟩ := (H2.out.ext (HB.out.1.trans hex)).at k hlt
      have HT : Hid (∀ W, Ext wr W → Calls Tryz.prog 36 #[.slice x1 (a.ivs.getD k []).length d1, .slice x2 (a.ivs.getD k []).length d2] W fun e w' => e = .returned (.bool true) ∧ Ext W w') := Lib.hid (fun W e => (Texts_any x1 x2 d1 (a.ivs.getD k []).length d2 (a.ivs.getD k []).length (a.ivs.getD k []) (a.ivs.getD k []) W (hs1.ext e) (hs2.ext e) rfl rfl (by have := H3.out k; unfold maxLen; omega) (by have := H3.out k; unfold maxLen; omega)).mono (by
        rintro e w' ⟨rfl, n, rfl⟩
        exact ⟨by simp, Ext.drewN _ _⟩))
      generalize a.ivs.getD k [] = L at *
      clear hex hs1 hs2
      go_upto_region 6 with (fail)
      refine wp_region_mk 200 (Ext.refl wr) (by kernel_rfl) (by kernel_rfl) (by kernel_rfl) ?_
      simp only [List.take_succ_cons, List.take_zero, List.take_nil, List.drop_succ_cons, List.drop_zero, List.drop_nil, List.map_cons, List.map_nil]
      repeat (first
        | (refine wpML_det (o := ⟨some 45, _, _, _, _, _⟩) (v := .bool true) rfl ?_ ?_
           · intro a w' he hr K hK
             simp [Reads, Oper.looksAt, Op.operands, Call.operands, factAt, Is] at hr
             go_simp
             refine (HT.out _ he).mono ?_
             rintro e w'' ⟨rfl, he''⟩
             exact hK _ he''
           simp only [setL, List.set_cons_succ, List.set_cons_zero])
        | (refine wpML_move _ _ rfl (by first | exact .inl rfl | exact .inr rfl) rfl (by first | exact Is.stable _ | exact AppF.stable _ | exact WrF.stable _ | exact PtrF.stable _ _ | exact IfcF.stable (Fresh.stable _ _ _) _ | exact PairF.stable (RowF.stable _ _ _ _) _ | exact RowF.stable _ _ _ _ | exact Fresh.stable _ _ _) ?_
           simp only [setL, List.set_cons_succ, List.set_cons_zero, List.getD_cons_succ, List.getD_cons_zero])
        | (refine wpML_moveC _ rfl (by first | exact .inl rfl | exact .inr rfl) ?_
           simp only [setL, List.set_cons_succ, List.set_cons_zero])
        | (apply wpML_det rfl
           · intro a w' he hr K hK
             simp [Reads, Oper.looksAt, Op.operands, Call.operands, factAt, Is] at hr
             have hx := he.cell
             go_simp
             try go_bits
             try (rw [if_neg (by omega)]; go_simp)
             first
               | exact hK _ (Ext.refl _)
           simp only [setL, List.set_cons_succ, List.set_cons_zero])
        | (apply wpML_det rfl
           · intro a w' he hr K hK
             simp [Reads, Oper.looksAt, Op.operands, Call.operands, factAt, Fresh] at hr
             obtain ⟨b, hr1, hr2⟩ := hr
             go_simp
             exact hK _ (Ext.refl _)
           simp only [setL, List.set_cons_succ, List.set_cons_zero]))
      intro w2 he2
      repeat (first | with_reducible refine rest_is _ _ _ _ ?_ | (with_reducible refine rest_fact _ _ _ _ ?_; intro _ _) | with_reducible refine rest_end _ _ ?_)
      simp only [List.reverse_cons, List.reverse_nil, List.nil_append, List.cons_append]
      clear hc1 hc2 hg1 hg2 l1 l2 m1 m2 a4 b4 la lb
      go_wp2_with fail
      go_roundw
      case rel => exact ⟨k + 1, by omega, by go_num, Hex.out.trans he2⟩
      case measure => simp [intOf]; omega
    · have hltI : decide ((k : Int) < a.ivs.length) = false := by simp; omega
      go_wp2
      go_ret
      exact ⟨rfl, HB.out.1.trans hex⟩
theorem SameA_any (a : Ar) (q : Option Addr) (c : Nat) (p : Option Addr) (m : Nat) (q' : Option Addr) (c' : Nat) (p' : Option Addr) (m' : Nat) (w : World) (hv : ArV w a q c p m) (hv' : ArV w a q' c' p' m') (h1 : a.nd.ents.length ≤ 1000000) (h2 : a.ivs.length ≤ 1000000) (h3 : ∀ i, (a.ivs.getD i []).length ≤ 1000000) :
    Calls Tryz.prog 12 #[.agg (arC a q c p m), .agg (arC a q' c' p' m')] w fun e w' => e = .returned (.bool true) ∧ Ext w w' := SameA_anyW a q c p m q' c' p' m' w hv.x hv'.x h1 h2 h3
end Go.Proofs.YtpefkjhiaflonaaGreat
