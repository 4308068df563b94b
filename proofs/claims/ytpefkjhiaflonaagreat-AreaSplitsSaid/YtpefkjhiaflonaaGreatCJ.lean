/- The walk of the law AreaSplits. -/
import Derived.Test.YtpefkjhiaflonaaGreatCH
import Derived.Test.YtpefkjhiaflonaaGreatBC
import Derived.Test.YtpefkjhiaflonaaGreatBD
set_option linter.unusedSimpArgs false
set_option linter.unusedVariables false
namespace Dsd
def fewN (n : Nd) : Bool := (n.ents.all fun x => decide (x.1.length ≤ 100)) && decide (n.ents.length ≤ 200)
def fewA (a : Ar) : Bool := fewN a.nd && decide (a.ivs.length ≤ 20) && a.ivs.all fun L => Go.Proofs.YtpefkjhiaflonaaGreat.shortB L 200 600
theorem all_ents {L : List Ent} {f : Ent → Bool} {k : Nat} (h : k < L.length) (hk : (L.take k).all f = true) : (L.take (k + 1)).all f = f (entAt L k) := by
  have e : entAt L k = L[k] := by simp [entAt, List.getD, h]
  rw [List.take_succ_eq_append_getElem h, List.all_append, hk, e]
  simp
theorem not_all_ents {L : List Ent} {f : Ent → Bool} {k : Nat} (h : k < L.length) (hk : f (entAt L k) = false) : L.all f = false := by
  have e : entAt L k = L[k] := by simp [entAt, List.getD, h]
  rw [e] at hk
  rw [Bool.eq_false_iff]
  intro ha
  rw [List.all_eq_true] at ha
  rw [ha _ (List.getElem_mem h)] at hk
  cases hk
theorem all_rows {V : List Recs} {f : Recs → Bool} {k : Nat} (h : k < V.length) (hk : (V.take k).all f = true) : (V.take (k + 1)).all f = f (V.getD k []) := by
  have e : V.getD k [] = V[k] := by simp [List.getD, h]
  rw [List.take_succ_eq_append_getElem h, List.all_append, hk, e]
  simp
theorem not_all_rows {V : List Recs} {f : Recs → Bool} {k : Nat} (h : k < V.length) (hk : f (V.getD k []) = false) : V.all f = false := by
  have e : V.getD k [] = V[k] := by simp [List.getD, h]
  rw [e] at hk
  rw [Bool.eq_false_iff]
  intro ha
  rw [List.all_eq_true] at ha
  rw [ha _ (List.getElem_mem h)] at hk
  cases hk
/-- The halves, the bound and the error. -/
def splA (d : DS) (a : Ar) (base : Int) : Ar × Ar × List UInt8 × Int :=
  if (areaB d a && isBaseB base) = false then (Ar.zero, Ar.zero, [], 1)
  else if a.ivs.length = 1 then (Ar.zero, Ar.zero, [], 9)
  else (leftA a base, rightA a base, midA a, 0)
end Dsd
namespace Go.Proofs.YtpefkjhiaflonaaGreat
open Go.RowKit Dsd
theorem ArW.zero (w : World) : ArW w Ar.zero none 0 none 0 := ⟨.inl rfl, ⟨[], .inl rfl, rfl, fun i h => by simp [Ar.zero] at h⟩, Nat.le_refl _, Nat.le_refl _, by simp⟩
/-- What Split hands back, told by its values. -/
def SplX (d : DS) (a : Ar) (base : Int) (w : World) (e : Ending) (w' : World) : Prop := Ext w w' ∧ ∃ (q1 : Option Addr) (c1 : Nat) (p1 : Option Addr) (m1 : Nat) (q2 : Option Addr) (c2 : Nat) (p2 : Option Addr) (m2 : Nat),
  e = .returned (.tuple #[.agg (arC (splA d a base).1 q1 c1 p1 m1), .agg (arC (splA d a base).2.1 q2 c2 p2 m2), .string ⟨(splA d a base).2.2.1.toArray⟩, .int .i64 (splA d a base).2.2.2]) ∧ ArW w' (splA d a base).1 q1 c1 p1 m1 ∧ ArW w' (splA d a base).2.1 q2 c2 p2 m2
theorem splitG_x {d : DS} {a : Ar} {base : Int} {w w' : World} {e : Ending} (h : SplitG d a base w e w') : SplX d a base w e w' := by
  obtain ⟨h1, h2⟩ := h
  refine ⟨h1, ?_⟩
  unfold splA
  split at h2
  · rename_i hc
    rw [if_pos hc]
    exact ⟨none, 0, none, 0, none, 0, none, 0, h2, ArW.zero _, ArW.zero _⟩
  · rename_i hc
    rw [if_neg hc]
    split at h2
    · rename_i hc2
      rw [if_pos hc2]
      exact ⟨none, 0, none, 0, none, 0, none, 0, h2, ArW.zero _, ArW.zero _⟩
    · rename_i hc2
      rw [if_neg hc2]
      exact h2
theorem own_wrtsW {w : World} {B n c : Nat} {q : Option Addr} {L : List Wr} (h : w.ownsRow B 63 2 (.slice q n c) n (wrC L)) : Wrts w q L ∧ L.length = n := by
  have hl := h.1
  rw [wrC_len] at hl
  by_cases h0 : n = 0
  · exact ⟨.inl (List.eq_nil_of_length_eq_zero (by omega)), by omega⟩
  · obtain ⟨g, _, rfl, _⟩ := own_parts h (by omega)
    exact ⟨rowW_wrts (own_rowW h).1, by omega⟩
set_option maxRecDepth 100000 in
set_option maxHeartbeats 1000000 in
theorem FewN_any (q : Option Addr) (c : Nat) (n : Nd) (w : World) (h : Nents w q n.ents) (hl : n.ents.length ≤ maxLen) (hs : ∀ i, (entAt n.ents i).1.length ≤ maxLen) :
    Calls Tryz.prog 19 #[ndV n q c] w fun e w' => e = .returned (.bool (fewN n)) ∧ Ext w w' := by
  have hm : n.ents.length ≤ 9223372036854775807 := hl
  have Hn := Lib.hid h
  have Hs := Lib.hid hs
  have HF : Hid (fewN n = ((n.ents.all fun x => decide (x.1.length ≤ 100)) && decide (n.ents.length ≤ 200))) := Lib.hid rfl
  unfold ndV
  clear h hs hl
  generalize fewN n = fw at *
  go_enter Tryz.func19, Tryz.ntmps19
  go_upto_region 2 with (fail)
  have hb := Blk.new w (.cells #[.int .i64 n.level, .int .i64 n.next, .slice q n.ents.length c] 26)
  have Hx := Lib.hid (Ext.alloc w (.cells #[.int .i64 n.level, .int .i64 n.next, .slice q n.ents.length c] 26))
  generalize w.alloc (.cells #[.int .i64 n.level, .int .i64 n.next, .slice q n.ents.length c] 26) = wo at *
  have c2 := Blk.val hb 2 _ rfl
  have lb := Blk.lt hb
  generalize w.heap.size = bb at *
  generalize n.ents = L at *
  clear hb
  go_loopw [3] (fun i wr => wr = wo ∧ ∃ k : Nat, k ≤ L.length ∧ i = .int .i64 k ∧ ((L.take k).all fun x => decide (x.1.length ≤ 100)) = true) (fun i _ => L.length - (intOf i).toNat)
  case atStart => exact ⟨rfl, 0, Nat.zero_le _, rfl, by simp⟩
  case round =>
    obtain ⟨rfl, k, hk, rfl, hq⟩ := hrel
    by_cases hlt : k < L.length
    · have hltI : (k : Int) < L.length := by omega
      obtain ⟨g, off, rfl, hg, hc⟩ := (Hn.out.ext Hx.out).at k hlt
      obtain ⟨hck, _⟩ := hc k hlt
      have hsm : (entAt L k).1.length ≤ 9223372036854775807 := Hs.out k
      have HS := Lib.hid (all_ents (f := fun x => decide (x.1.length ≤ 100)) hlt hq)
      have HN := Lib.hid (not_all_ents (f := fun x => decide (x.1.length ≤ 100)) hlt)
      clear hc hq
      generalize entAt L k = x at *
      obtain ⟨s, pg⟩ := x
      simp only at hck hsm HS HN
      by_cases h100 : s.length ≤ 100
      · have hd : decide (100 < (s.length : Int)) = false := decide_eq_false (by omega)
        have Hd := Lib.hid (decide_eq_true h100)
        clear h100
        go_wp2
        go_roundw
        case rel => exact ⟨trivial, k + 1, by omega, by go_num, by rw [HS.out]; exact Hd.out⟩
        case measure => simp [intOf]; omega
      · have hd : decide (100 < (s.length : Int)) = true := decide_eq_true (by omega)
        have Hd := Lib.hid (decide_eq_false h100)
        clear h100
        go_wp2
        go_ret
        exact ⟨by rw [HF.out, HN.out Hd.out]; rfl, Hx.out⟩
    · have hltI : decide ((k : Int) < L.length) = false := decide_eq_false (by omega)
      rw [List.take_of_length_le (by omega)] at hq
      have HQ := Lib.hid hq
      clear hq
      by_cases h200 : L.length ≤ 200
      · have hd : decide ((L.length : Int) ≤ 200) = true := decide_eq_true (by omega)
        have Hd := Lib.hid (decide_eq_true h200)
        go_wp2
        go_ret
        exact ⟨by rw [HF.out, HQ.out, Hd.out]; rfl, Hx.out⟩
      · have hd : decide ((L.length : Int) ≤ 200) = false := decide_eq_false (by omega)
        have Hd := Lib.hid (decide_eq_false h200)
        go_wp2
        go_ret
        exact ⟨by rw [HF.out, HQ.out, Hd.out]; rfl, Hx.out⟩
theorem short_small1 {L : List (List UInt8)} (h : shortB L 200 600 = true) : Small L := by
  unfold shortB at h
  simp only [Bool.and_eq_true, decide_eq_true_eq, List.all_eq_true] at h
  exact ⟨by omega, fun s hs => by have := h.2 s hs; omega⟩
set_option maxRecDepth 100000 in
set_option maxHeartbeats 1000000 in
theorem FewA_any (a : Ar) (q : Option Addr) (c : Nat) (p : Option Addr) (m : Nat) (w : World) (hv : ArW w a q c p m) (hcm : c ≤ maxLen) (hs : ∀ i, (entAt a.nd.ents i).1.length ≤ maxLen) (h3 : ∀ i, (a.ivs.getD i []).length ≤ maxLen) :
    Calls Tryz.prog 5 #[.agg (arC a q c p m)] w fun e w' => e = .returned (.bool (fewA a)) ∧ Ext w w' := by
  have HN := Lib.hid (fun W (e : Ext w W) => FewN_any q c a.nd W (hv.ents.ext e) (Nat.le_trans hv.ec hcm) hs)
  unfold ndV at HN
  have H1 := Lib.hid hv.ivs
  have H3 := Lib.hid h3
  have HF : Hid (fewA a = (fewN a.nd && decide (a.ivs.length ≤ 20) && a.ivs.all fun L => shortB L 200 600)) := Lib.hid rfl
  have hm : a.ivs.length ≤ 9223372036854775807 := Nat.le_trans hv.ic hv.im
  clear hv h3 hs hcm
  generalize fewA a = fw at *
  go_enter Tryz.func5, Tryz.ntmps5
  go_upto_region 1 with (fail)
  refine wp_name (fun w0 => Ext w w0 ∧ ArAt w0 w.heap.size a q c p m) ⟨Ext.alloc _ _, Blk.new w _⟩ ?_
  rintro w0 ⟨he0, hb0⟩
  obtain ⟨_, _, _, _, a4, la⟩ := hb0.cells
  cases hn : fewN a.nd
  · rw [hn] at HN HF
    clear hn
    go_wp2_with (first
      | ((with_reducible (show wpList _ _ _ (⟨some 5, _, _, _, _, _⟩ :: _) _ _)); refine wpList_part (o := ⟨some 5, _, _, _, _, _⟩) rfl 26 (.tmp 4) rfl w.heap.size 1 rfl _ (arC a q c p m) #[.int .i64 a.nd.level, .int .i64 a.nd.next, .slice q a.nd.ents.length c] _ hb0 (ar_part a q c p m) ndDesc rfl ndSize ?_)
      | (go_at_call 19; refine (HN.out _ he0).mono ?_; rintro e w1 ⟨rfl, he1⟩))
    go_ret
    exact ⟨by rw [HF.out]; rfl, he0.trans he1⟩
  · rw [hn] at HN HF
    clear hn
    by_cases h20 : a.ivs.length ≤ 20
    · have hd : decide (20 < (a.ivs.length : Int)) = false := decide_eq_false (by omega)
      have HD := Lib.hid (decide_eq_true h20)
      go_upto_region 4 with (first
        | ((with_reducible (show wpList _ _ _ (⟨some 5, _, _, _, _, _⟩ :: _) _ _)); refine wpList_part (o := ⟨some 5, _, _, _, _, _⟩) rfl 26 (.tmp 4) rfl w.heap.size 1 rfl _ (arC a q c p m) #[.int .i64 a.nd.level, .int .i64 a.nd.next, .slice q a.nd.ents.length c] _ hb0 (ar_part a q c p m) ndDesc rfl ndSize ?_)
        | (go_at_call 19; refine (HN.out _ he0).mono ?_; rintro e w1 ⟨rfl, he1⟩; obtain ⟨_, _, _, _, a4', la'⟩ := (hb0.ext he1).cells))
      have HB := Lib.hid (And.intro (he0.trans he1) (hb0.ext he1))
      clear hb0 he0 he1 a4 la a4' la' HN hd
      go_loopw [3] (fun i wr => wr = w1 ∧ ∃ k : Nat, k ≤ a.ivs.length ∧ i = .int .i64 k ∧ ((a.ivs.take k).all fun L => shortB L 200 600) = true) (fun i _ => a.ivs.length - (intOf i).toNat)
      case atStart => exact ⟨rfl, 0, Nat.zero_le _, rfl, by simp⟩
      case round =>
        obtain ⟨rfl, k, hk, rfl, hq⟩ := hrel
        obtain ⟨_, _, _, _, a4, la⟩ := HB.out.2.cells
        by_cases hlt : k < a.ivs.length
        · have hltI : (k : Int) < a.ivs.length := by omega
          obtain ⟨g1, o1, v1, rfl, hg1, hc1, x1, d1, rfl, hs1, l1, l2, _⟩ := (H1.out.ext HB.out.1).at k hlt
          have hT := Short_any x1 d1 (a.ivs.getD k []).length (a.ivs.getD k []) 200 600 wr hs1 rfl (H3.out k)
          have HS := Lib.hid (all_rows (f := fun L => shortB L 200 600) hlt hq)
          have HNo := Lib.hid (not_all_rows (f := fun L => shortB L 200 600) hlt)
          have HT := Lib.hid hT
          clear hT hq hs1
          generalize a.ivs.getD k [] = L at *
          cases hb : shortB L 200 600
          · rw [hb] at HT
            have HX := Lib.hid (HNo.out hb)
            clear hb
            go_wp2_with (go_at_call 20; refine HT.out.mono ?_; rintro e w2 ⟨rfl, rfl⟩)
            go_ret
            exact ⟨by rw [HF.out, HX.out, HD.out]; rfl, HB.out.1⟩
          · rw [hb] at HT
            have HX := Lib.hid (HS.out.trans hb)
            clear hb
            go_wp2_with (go_at_call 20; refine HT.out.mono ?_; rintro e w2 ⟨rfl, rfl⟩)
            go_roundw
            case rel => exact ⟨trivial, k + 1, by omega, by go_num, HX.out⟩
            case measure => simp [intOf]; omega
        · have hltI : decide ((k : Int) < a.ivs.length) = false := by simp; omega
          rw [List.take_of_length_le (by omega)] at hq
          have HQ := Lib.hid hq
          clear hq
          go_wp2
          go_ret
          exact ⟨by rw [HF.out, HQ.out, HD.out]; rfl, HB.out.1⟩
    · have hd : decide (20 < (a.ivs.length : Int)) = true := decide_eq_true (by omega)
      have HD := Lib.hid (decide_eq_false h20)
      clear h20
      go_wp2_with (first
        | ((with_reducible (show wpList _ _ _ (⟨some 5, _, _, _, _, _⟩ :: _) _ _)); refine wpList_part (o := ⟨some 5, _, _, _, _, _⟩) rfl 26 (.tmp 4) rfl w.heap.size 1 rfl _ (arC a q c p m) #[.int .i64 a.nd.level, .int .i64 a.nd.next, .slice q a.nd.ents.length c] _ hb0 (ar_part a q c p m) ndDesc rfl ndSize ?_)
        | (go_at_call 19; refine (HN.out _ he0).mono ?_; rintro e w1 ⟨rfl, he1⟩; obtain ⟨_, _, _, _, a4', la'⟩ := (hb0.ext he1).cells))
      go_ret
      exact ⟨by rw [HF.out, HD.out]; rfl, he0.trans he1⟩
end Go.Proofs.YtpefkjhiaflonaaGreat
/- The walk of area.Split, at any area and base. -/
namespace Go.Proofs.YtpefkjhiaflonaaGreat
open Go.RowKit Dsd
set_option maxRecDepth 100000 in
set_option maxHeartbeats 4000000 in
theorem SplitP_any (d : DS) (a : Ar) (q : Option Addr) (c : Nat) (p : Option Addr) (m : Nat) (base : Int) (w : World) (hv : ArW w a q c p m) (h1 : a.nd.ents.length ≤ 1000000) (h2 : a.ivs.length ≤ 1000000) (h3 : ∀ i, Small (a.ivs.getD i [])) :
    Calls Tryz.prog 6 #[.agg #[.int .i64 d.id, .int .i64 d.org, .int .i64 d.format, .int .i64 d.length, .int .i64 d.block, .int .i64 d.keyAt, .int .i64 d.keyLength, .int .i64 d.interval, .int .i64 d.area, .int .i64 d.freeInterval, .int .i64 d.freeArea, .int .i64 d.base, .int .i64 d.altAt, .int .i64 d.altLength, .bool d.unique, .int .i64 d.cls, .string ⟨d.volume.toArray⟩, .string ⟨d.owner.toArray⟩, .int .i64 d.created, .int .i64 d.expires, .bool d.archived], .agg (arC a q c p m), .int .i64 base] w (SplitG d a base w) := by
  by_cases hg : (areaB d a && isBaseB base) = true
  · obtain ⟨hA, hB⟩ := Bool.and_eq_true_iff.1 hg
    refine (SplitS_anyW d a q c p m base w (area_iff.1 hA) hv hB).mono ?_
    rintro e w' ⟨he, h⟩
    refine ⟨he, ?_⟩
    rw [hg, if_neg (by simp)]
    split at h
    · rename_i hc; rw [if_pos hc]; exact h
    · rename_i hc
      rw [if_neg hc]
      obtain ⟨q1, c1, p1, m1, q2, c2, p2, m2, h1, h2, h3⟩ := h
      exact ⟨q1, c1, p1, m1, q2, c2, p2, m2, h1, h2.x, h3.x⟩
  · have hgf : (areaB d a && isBaseB base) = false := by simpa using hg
    have HV := Lib.hid (fun W (e : Ext w W) => ValidG_anyW d a q c p m W (hv.ext e) h1 h2 h3)
    have HB := Lib.hid (fun W => isBase_any base W)
    have hda := ds_ar w d a q c p m
    have hex3 := (Ext.alloc ((w.alloc (.cells #[.int .i64 d.id, .int .i64 d.org, .int .i64 d.format, .int .i64 d.length, .int .i64 d.block, .int .i64 d.keyAt, .int .i64 d.keyLength, .int .i64 d.interval, .int .i64 d.area, .int .i64 d.freeInterval, .int .i64 d.freeArea, .int .i64 d.base, .int .i64 d.altAt, .int .i64 d.altLength, .bool d.unique, .int .i64 d.cls, .string ⟨d.volume.toArray⟩, .string ⟨d.owner.toArray⟩, .int .i64 d.created, .int .i64 d.expires, .bool d.archived] 23)).alloc (.cells (arC a q c p m) 29)) (.cells arZ 29)).trans (Ext.alloc _ (.cells arZ 29))
    have HO : Hid (∀ e w', SplitG d a base w e w' ↔ (Ext w w' ∧ e = .returned (.tuple #[.agg arZ, .agg arZ, .string ⟨#[]⟩, .int .i64 1]))) := Lib.hid (fun e w' => by unfold SplitG; rw [if_pos hgf])
    generalize SplitG d a base w = OUT at *
    clear hv hg h1 h2 h3
    cases hA : areaB d a
    · rw [hA] at HV
      clear hA hgf HB
      go_enter Tryz.func6, Tryz.ntmps6
      go_upto_region 1 with (fail)
      refine wp_name (fun w0 => Ext w w0 ∧ DsAt w0 w.heap.size d ∧ ArAt w0 (w.heap.size + 1) a q c p m ∧ Blk w0 (w.heap.size + 1 + 1) (.cells arZ 29) ∧ Blk w0 (w.heap.size + 1 + 1 + 1) (.cells arZ 29)) ⟨hda.1.trans hex3, hda.2.1.ext hex3, hda.2.2.ext hex3, (Ext.alloc _ _).blk _ _ (Blk.new1 _ _ _ (by simp)), Blk.new1 _ _ _ (by simp)⟩ ?_
      clear hda hex3
      rintro w0 ⟨he0, hd0, ha0, hz0, hy0⟩
      go_wp2_with (first
        | ((with_reducible (show wpList _ _ _ (⟨some 18, _, _, _, _, _⟩ :: _) _ _)); refine wpList_ds (o := ⟨some 18, _, _, _, _, _⟩) rfl (.tmp 3) rfl _ rfl d hd0 ?_)
        | ((with_reducible (show wpList _ _ _ (⟨some 19, _, _, _, _, _⟩ :: _) _ _)); refine wpList_row (o := ⟨some 19, _, _, _, _, _⟩) rfl 29 (.tmp 4) rfl _ rfl _ _ _ ha0 arDesc rfl arSize ?_)
        | (go_at_call 18; refine (HV.out _ he0).mono ?_; rintro e w1 ⟨rfl, he1⟩; have hz1 := he1.blk _ _ hz0; have hy1 := he1.blk _ _ hy0)
        | (refine wpList_bld (o := ⟨some 27, _, _, _, _, _⟩) rfl 29 #[] rfl [] rfl _ arZ_built ?_)
        | (refine wpList_bld (o := ⟨some 28, _, _, _, _, _⟩) rfl 29 #[] rfl [] rfl _ arZ_built ?_)
        | (refine wpList_put rfl 29 (.tmp 6) (.tmp 27) rfl _ arZ rfl rfl _ _ hz1 arSize rfl (by simp [arZ, Value.oneCell']) ?_; intro w3 hz3 hc3)
        | (refine wpList_put rfl 29 (.tmp 7) (.tmp 28) rfl _ arZ rfl rfl _ _ (hc3.blk hy1 (by omega)) arSize rfl (by simp [arZ, Value.oneCell']) ?_; intro w4 hy4 hc4))
      exact bodyPost_ret (results_rows2 Tryz.results6 _ _ _ _ _ _ _ _ _ _ rfl (hc4.blk hz3 (by omega)) arDesc rfl arSize rfl hy4 arDesc rfl arSize) rfl ((HO.out _ _).2 ⟨hc4.ext (hc3.ext (he0.trans he1) (by omega)) (by omega), rfl⟩)
    · rw [hA] at HV hgf
      rw [show isBaseB base = false from by simpa using hgf] at HB
      clear hA hgf
      go_enter Tryz.func6, Tryz.ntmps6
      go_upto_region 1 with (fail)
      refine wp_name (fun w0 => Ext w w0 ∧ DsAt w0 w.heap.size d ∧ ArAt w0 (w.heap.size + 1) a q c p m ∧ Blk w0 (w.heap.size + 1 + 1) (.cells arZ 29) ∧ Blk w0 (w.heap.size + 1 + 1 + 1) (.cells arZ 29)) ⟨hda.1.trans hex3, hda.2.1.ext hex3, hda.2.2.ext hex3, (Ext.alloc _ _).blk _ _ (Blk.new1 _ _ _ (by simp)), Blk.new1 _ _ _ (by simp)⟩ ?_
      clear hda hex3
      rintro w0 ⟨he0, hd0, ha0, hz0, hy0⟩
      go_wp2_with (first
        | ((with_reducible (show wpList _ _ _ (⟨some 18, _, _, _, _, _⟩ :: _) _ _)); refine wpList_ds (o := ⟨some 18, _, _, _, _, _⟩) rfl (.tmp 3) rfl _ rfl d hd0 ?_)
        | ((with_reducible (show wpList _ _ _ (⟨some 19, _, _, _, _, _⟩ :: _) _ _)); refine wpList_row (o := ⟨some 19, _, _, _, _, _⟩) rfl 29 (.tmp 4) rfl _ rfl _ _ _ ha0 arDesc rfl arSize ?_)
        | (go_at_call 18; refine (HV.out _ he0).mono ?_; rintro e w1 ⟨rfl, he1⟩; have hz1 := he1.blk _ _ hz0; have hy1 := he1.blk _ _ hy0)
        | (go_at_call 21; refine (HB.out _).mono ?_; rintro e w2 ⟨rfl, rfl⟩)
        | (refine wpList_bld (o := ⟨some 27, _, _, _, _, _⟩) rfl 29 #[] rfl [] rfl _ arZ_built ?_)
        | (refine wpList_bld (o := ⟨some 28, _, _, _, _, _⟩) rfl 29 #[] rfl [] rfl _ arZ_built ?_)
        | (refine wpList_put rfl 29 (.tmp 6) (.tmp 27) rfl _ arZ rfl rfl _ _ hz1 arSize rfl (by simp [arZ, Value.oneCell']) ?_; intro w3 hz3 hc3)
        | (refine wpList_put rfl 29 (.tmp 7) (.tmp 28) rfl _ arZ rfl rfl _ _ (hc3.blk hy1 (by omega)) arSize rfl (by simp [arZ, Value.oneCell']) ?_; intro w4 hy4 hc4))
      exact bodyPost_ret (results_rows2 Tryz.results6 _ _ _ _ _ _ _ _ _ _ rfl (hc4.blk hz3 (by omega)) arDesc rfl arSize rfl hy4 arDesc rfl arSize) rfl ((HO.out _ _).2 ⟨hc4.ext (hc3.ext (he0.trans he1) (by omega)) (by omega), rfl⟩)
end Go.Proofs.YtpefkjhiaflonaaGreat
/- The walk of the law AreaSplits. -/
namespace Dsd
theorem leftA_small {a : Ar} {base : Int} : (leftA a base).nd.ents.length ≤ a.nd.ents.length ∧ (leftA a base).ivs.length ≤ a.ivs.length ∧ ∀ i, ((leftA a base).ivs.getD i []).length ≤ (a.ivs.getD i []).length := by
  refine ⟨?_, ?_, fun i => ?_⟩
  · simp only [leftA, clrL_len, List.length_take]; omega
  · simp only [leftA, List.length_take]; omega
  · simp only [leftA, List.getD, List.getElem?_take]
    split
    · exact Nat.le_refl _
    · simp
theorem rightA_small {a : Ar} {base : Int} : (rightA a base).nd.ents.length ≤ a.nd.ents.length ∧ (rightA a base).ivs.length ≤ a.ivs.length ∧ ∀ i, ∃ j, ((rightA a base).ivs.getD i []).length ≤ (a.ivs.getD j []).length := by
  refine ⟨?_, ?_, fun i => ⟨(a.nd.ents.length + 1) / 2 + i, ?_⟩⟩
  · simp only [rightA, renum_len, List.length_drop]; omega
  · simp only [rightA, List.length_drop]; omega
  · simp only [rightA, List.getD, List.getElem?_drop]
    exact Nat.le_refl _
theorem splA_small {d : DS} {a : Ar} {base : Int} (h1 : a.nd.ents.length ≤ 1000000) (h2 : a.ivs.length ≤ 1000000) (h3 : ∀ i, (a.ivs.getD i []).length ≤ 1000000) :
    ((splA d a base).1.nd.ents.length ≤ 1000000 ∧ (splA d a base).1.ivs.length ≤ 1000000 ∧ ∀ i, ((splA d a base).1.ivs.getD i []).length ≤ 1000000) ∧ (splA d a base).2.1.nd.ents.length ≤ 1000000 ∧ (splA d a base).2.1.ivs.length ≤ 1000000 ∧ ∀ i, ((splA d a base).2.1.ivs.getD i []).length ≤ 1000000 := by
  have hz : Ar.zero.nd.ents.length ≤ 1000000 ∧ Ar.zero.ivs.length ≤ 1000000 ∧ ∀ i, (Ar.zero.ivs.getD i []).length ≤ 1000000 := ⟨by decide, by decide, fun i => by simp [Ar.zero]⟩
  obtain ⟨l1, l2, l3⟩ := leftA_small (a := a) (base := base)
  obtain ⟨r1, r2, r3⟩ := rightA_small (a := a) (base := base)
  unfold splA
  split
  · exact ⟨hz, hz⟩
  · split
    · exact ⟨hz, hz⟩
    · exact ⟨⟨Nat.le_trans l1 h1, Nat.le_trans l2 h2, fun i => Nat.le_trans (l3 i) (h3 i)⟩, Nat.le_trans r1 h1, Nat.le_trans r2 h2, fun i => by obtain ⟨j, hj⟩ := r3 i; exact Nat.le_trans hj (h3 j)⟩
theorem few_small {a : Ar} (h : fewA a = true) : a.nd.ents.length ≤ 1000000 ∧ a.ivs.length ≤ 1000000 ∧ ∀ i, Small (a.ivs.getD i []) := by
  unfold fewA fewN at h
  simp only [Bool.and_eq_true, decide_eq_true_eq] at h
  obtain ⟨⟨⟨_, h1⟩, h2⟩, h3⟩ := h
  refine ⟨by omega, by omega, fun i => ?_⟩
  by_cases hi : i < a.ivs.length
  · rw [List.all_eq_true] at h3
    have e : a.ivs.getD i [] = a.ivs[i] := by simp [List.getD, hi]
    rw [e]
    exact Go.Proofs.YtpefkjhiaflonaaGreat.short_small1 (h3 _ (List.getElem_mem hi))
  · have e : a.ivs.getD i [] = [] := by simp [List.getD, List.getElem?_eq_none (Nat.le_of_not_lt hi)]
    rw [e]
    exact ⟨by simp, by simp⟩
end Dsd
namespace Go.Proofs.YtpefkjhiaflonaaGreat
open Go.RowKit Dsd
theorem pagesD_len (d : DS) (a : Ar) : (pagesD d a).length ≤ 1000000 := by
  unfold pagesD
  split
  · rename_i h; have := (refL_len (area_iff.1 h)).2; omega
  · simp
theorem writesD_len (d : DS) (a b : Ar) : (writesD d a b).length ≤ 1000000 := by
  unfold writesD
  split
  · rename_i h
    have := (refL_len (area_iff.1 h.2)).2
    have h2 : (writesL (refL d a) (refL d b)).length ≤ (refL d b).length := List.length_filter_le _ _
    omega
  · simp
/-- What Pages hands back, in the words that SameWrites reads. -/
theorem pagesOut_w {d : DS} {a : Ar} {w w' : World} {e : Ending} (h : PagesOut d a w e w') : Ext w w' ∧ ∃ q c, e = .returned (.tuple #[.slice q (pagesD d a).length c, .int .i64 (pagesE d a)]) ∧ Wrts w' q (pagesD d a) := by
  obtain ⟨h1, v, h2, h3⟩ := h
  obtain ⟨q, c, rfl⟩ := own_slice h3
  exact ⟨h1, q, c, h2, (own_wrtsW h3).1⟩
set_option maxRecDepth 100000 in
set_option maxHeartbeats 4000000 in
theorem AreaSplits_any (d : DS) (a : Ar) (q : Option Addr) (c : Nat) (p : Option Addr) (m : Nat) (b : Ar) (q' : Option Addr) (c' : Nat) (p' : Option Addr) (m' : Nat) (base : Int) (w : World)
    (hv : ArW w a q c p m) (hc : c ≤ maxLen) (hs : ∀ i, (entAt a.nd.ents i).1.length ≤ maxLen) (h3 : ∀ i, (a.ivs.getD i []).length ≤ maxLen ∧ ∀ s ∈ a.ivs.getD i [], s.length ≤ maxLen)
    (hv' : ArW w b q' c' p' m') (hc' : c' ≤ maxLen) (hs' : ∀ i, (entAt b.nd.ents i).1.length ≤ maxLen) (h3' : ∀ i, (b.ivs.getD i []).length ≤ maxLen ∧ ∀ s ∈ b.ivs.getD i [], s.length ≤ maxLen) :
    Calls Tryz.prog 3 #[.agg #[.int .i64 d.id, .int .i64 d.org, .int .i64 d.format, .int .i64 d.length, .int .i64 d.block, .int .i64 d.keyAt, .int .i64 d.keyLength, .int .i64 d.interval, .int .i64 d.area, .int .i64 d.freeInterval, .int .i64 d.freeArea, .int .i64 d.base, .int .i64 d.altAt, .int .i64 d.altLength, .bool d.unique, .int .i64 d.cls, .string ⟨d.volume.toArray⟩, .string ⟨d.owner.toArray⟩, .int .i64 d.created, .int .i64 d.expires, .bool d.archived], .agg (arC a q c p m), .agg (arC b q' c' p' m'), .int .i64 base] w fun e w' => e = .returned (.bool true) ∧ Ext w w' := by
  have HFa := Lib.hid (fun W (e : Ext w W) => FewA_any a q c p m W (hv.ext e) hc hs (fun i => (h3 i).1))
  have HFb := Lib.hid (fun W (e : Ext w W) => FewA_any b q' c' p' m' W (hv'.ext e) hc' hs' (fun i => (h3' i).1))
  have hda := ds_ar_ar w d a b q c p m q' c' p' m'
  have Hv := Lib.hid hv
  have Hv' := Lib.hid hv'
  clear hv hv' hs hs' h3 h3' hc hc'
  go_enter Tryz.func3, Tryz.ntmps3
  go_upto_region 1 with (fail)
  refine wp_name (fun w0 => Ext w w0 ∧ DsAt w0 w.heap.size d ∧ ArAt w0 (w.heap.size + 1) a q c p m ∧ ArAt w0 (w.heap.size + 1 + 1) b q' c' p' m') hda ?_
  clear hda
  rintro w0 ⟨he0, hd0, ha0, hb0⟩
  go_upto_region 3 with (go_at_call 4; refine (awakeA_any _).mono ?_; rintro e w1 ⟨rfl, he1⟩)
  refine wp_name (fun w2 => Ext w w2 ∧ DsAt w2 w.heap.size d ∧ ArAt w2 (w.heap.size + 1) a q c p m ∧ ArAt w2 (w.heap.size + 1 + 1) b q' c' p' m') ⟨he0.trans he1, hd0.ext he1, ha0.ext he1, hb0.ext he1⟩ ?_
  clear he0 he1 hd0 ha0 hb0
  generalize w.heap.size = bd
  rintro w2 ⟨he2, hd2, ha2, hb2⟩
  cases hfa : fewA a
  · rw [hfa] at HFa
    clear hfa
    go_wp2_with (first
      | ((with_reducible (show wpList _ _ _ (⟨some 27, _, _, _, _, _⟩ :: _) _ _)); refine wpList_row (o := ⟨some 27, _, _, _, _, _⟩) rfl 29 (.tmp 5) rfl _ rfl _ _ _ ha2 arDesc rfl arSize ?_)
      | (go_at_call 5; refine (HFa.out _ he2).mono ?_; rintro e w3 ⟨rfl, he3⟩))
    go_ret
    exact ⟨rfl, he2.trans he3⟩
  · rw [hfa] at HFa
    cases hfb : fewA b
    · rw [hfb] at HFb
      clear hfa hfb
      go_wp2_with (first
        | ((with_reducible (show wpList _ _ _ (⟨some 27, _, _, _, _, _⟩ :: _) _ _)); refine wpList_row (o := ⟨some 27, _, _, _, _, _⟩) rfl 29 (.tmp 5) rfl _ rfl _ _ _ ha2 arDesc rfl arSize ?_)
        | ((with_reducible (show wpList _ _ _ (⟨some 31, _, _, _, _, _⟩ :: _) _ _)); refine wpList_row (o := ⟨some 31, _, _, _, _, _⟩) rfl 29 (.tmp 6) rfl _ rfl _ _ _ hb3 arDesc rfl arSize ?_)
        | (go_at_call 5; (with_reducible refine (HFa.out _ he2).mono ?_); rintro e w3 ⟨rfl, he3⟩; have hb3 := hb2.ext he3)
        | (go_at_call 5; refine (HFb.out _ (he2.trans he3)).mono ?_; rintro e w4 ⟨rfl, he4⟩))
      go_ret
      exact ⟨rfl, (he2.trans he3).trans he4⟩
    · rw [hfb] at HFb
      obtain ⟨s1, s2, s3⟩ := few_small hfa
      obtain ⟨t1, t2, t3⟩ := few_small hfb
      clear hfa hfb
      have HP := Lib.hid (fun W (e : Ext w W) => (SplitP_any d a q c p m base W (Hv.out.ext e) s1 s2 s3).mono fun _ _ => splitG_x)
      have HR := Lib.hid (fun W (e : Ext w W) => (SplitRA_any d a q c p m base W (Hv.out.ext e) s1 s2 s3).mono fun _ _ => splitG_x)
      have HPg := Lib.hid (fun W (e : Ext w W) => (Pages_any d a q c p m W (Hv.out.ext e) s1 s2 s3).mono fun _ _ => pagesOut_w)
      have HRg := Lib.hid (fun W (e : Ext w W) => (PagesR_any d a q c p m W (Hv.out.ext e) s1 s2 s3).mono fun _ _ => pagesOut_w)
      have HPw := Lib.hid (fun W (e : Ext w W) => Writes_any d a b q c p m q' c' p' m' W (Hv.out.ext e) (Hv'.out.ext e) s1 s2 s3 t1 t2 t3)
      have HRw := Lib.hid (fun W (e : Ext w W) => WritesR_any d a b q c p m q' c' p' m' W (Hv.out.ext e) (Hv'.out.ext e) s1 s2 s3 t1 t2 t3)
      obtain ⟨⟨u1, u2, u3⟩, x1, x2, x3⟩ := splA_small (d := d) (a := a) (base := base) s1 s2 (fun i => (s3 i).1)
      have HS1 := Lib.hid (fun q1 c1 p1 m1 q2 c2 p2 m2 W (h1 : ArW W (splA d a base).1 q1 c1 p1 m1) (h2 : ArW W (splA d a base).1 q2 c2 p2 m2) => SameA_anyW (splA d a base).1 q1 c1 p1 m1 q2 c2 p2 m2 W h1 h2 u1 u2 u3)
      have HS2 := Lib.hid (fun q1 c1 p1 m1 q2 c2 p2 m2 W (h1 : ArW W (splA d a base).2.1 q1 c1 p1 m1) (h2 : ArW W (splA d a base).2.1 q2 c2 p2 m2) => SameA_anyW (splA d a base).2.1 q1 c1 p1 m1 q2 c2 p2 m2 W h1 h2 x1 x2 x3)
      unfold SplX at HP HR
      unfold WritesOut at HPw HRw
      have HG := Lib.hid (pagesD_len d a)
      have HGw := Lib.hid (writesD_len d a b)
      clear s1 s2 s3 t1 t2 t3 u1 u2 u3 x1 x2 x3
      generalize pagesD d a = PG at *
      generalize pagesE d a = pe at *
      generalize writesD d a b = WR at *
      generalize writesE d a b = we at *
      generalize splA d a base = S at *
      obtain ⟨X, Y, bnd, er⟩ := S
      simp only at HP HR HS1 HS2
      have Hv9 := Hv
      clear Hv Hv'
      go_upto_region 5 with (first
        | ((with_reducible (show wpList _ _ _ (⟨some 27, _, _, _, _, _⟩ :: _) _ _)); refine wpList_row (o := ⟨some 27, _, _, _, _, _⟩) rfl 29 (.tmp 5) rfl _ rfl _ _ _ ha2 arDesc rfl arSize ?_)
        | ((with_reducible (show wpList _ _ _ (⟨some 31, _, _, _, _, _⟩ :: _) _ _)); refine wpList_row (o := ⟨some 31, _, _, _, _, _⟩) rfl 29 (.tmp 6) rfl _ rfl _ _ _ hb3 arDesc rfl arSize ?_)
        | (go_at_call 5; (with_reducible refine (HFa.out _ he2).mono ?_); rintro e w3 ⟨rfl, he3⟩; have hb3 := hb2.ext he3)
        | (go_at_call 5; refine (HFb.out _ (he2.trans he3)).mono ?_; rintro e w4 ⟨rfl, he4⟩))
      have he34 := he3.trans he4
      refine wp_name (fun w5 => Ext w w5 ∧ DsAt w5 bd d ∧ ArAt w5 (bd + 1) a q c p m ∧ ArAt w5 (bd + 1 + 1) b q' c' p' m') ⟨he2.trans he34, hd2.ext he34, ha2.ext he34, hb2.ext he34⟩ ?_
      clear he34 he2 he3 he4 hd2 ha2 hb2 hb3 HFa HFb
      rintro w5 ⟨he5, hd5, ha5, hb5⟩
      go_upto_region 6 with (first
        | ((with_reducible (show wpList _ _ _ (⟨some 36, _, _, _, _, _⟩ :: _) _ _)); refine wpList_ds (o := ⟨some 36, _, _, _, _, _⟩) rfl (.tmp 4) rfl _ rfl d hd5 ?_)
        | ((with_reducible (show wpList _ _ _ (⟨some 37, _, _, _, _, _⟩ :: _) _ _)); refine wpList_row (o := ⟨some 37, _, _, _, _, _⟩) rfl 29 (.tmp 5) rfl _ rfl _ _ _ ha5 arDesc rfl arSize ?_)
        | (go_at_call 6; refine (HP.out _ he5).mono ?_; rintro e w6 ⟨he6, q1, c1, p1, m1, q2, c2, p2, m2, rfl, hX, hY⟩)
        | (refine wpList_put rfl 29 (.tmp 9) (.tmp 40) rfl _ (arC X q1 c1 p1 m1) rfl rfl _ _ ((Ext.alloc (w6.alloc (.cells arZ 29)) (.cells arZ 29)).blk _ _ (Blk.new w6 _)) arSize rfl (ar_one ..) ?_; intro w7 hx7 hc7)
        | (refine wpList_put rfl 29 (.tmp 10) (.tmp 41) rfl _ (arC Y q2 c2 p2 m2) rfl rfl _ _ (hc7.blk (Blk.new1 _ _ _ (by simp)) (by omega)) arSize rfl (ar_one ..) ?_; intro w8 hy8 hc8))
      have hE : Ext w6 w8 := hc8.ext (hc7.ext ((Ext.alloc _ _).trans (Ext.alloc _ _)) (Nat.le_refl _)) (by omega)
      have hE5 : Ext w5 w8 := he6.trans hE
      have hx8 := hc8.blk hx7 (by omega)
      refine wp_name (fun wa => Ext w wa ∧ DsAt wa bd d ∧ ArAt wa (bd + 1) a q c p m ∧ ArAt wa (bd + 1 + 1) b q' c' p' m' ∧ ArAt wa w6.heap.size X q1 c1 p1 m1 ∧ ArAt wa (w6.heap.size + 1) Y q2 c2 p2 m2 ∧ ArW wa X q1 c1 p1 m1 ∧ ArW wa Y q2 c2 p2 m2)
        ⟨he5.trans hE5, hd5.ext hE5, ha5.ext hE5, hb5.ext hE5, hx8, hy8, hX.ext hE, hY.ext hE⟩ ?_
      clear hE hE5 hc7 hc8 hx7 hx8 hy8 hX hY he6 he5 hd5 ha5 hb5 HP
      generalize w6.heap.size = xb
      rintro wa ⟨he5, hd5, ha5, hb5, hx5, hy5, hX, hY⟩
      go_upto_region 7 with (first
        | ((with_reducible (show wpList _ _ _ (⟨some 45, _, _, _, _, _⟩ :: _) _ _)); refine wpList_ds (o := ⟨some 45, _, _, _, _, _⟩) rfl (.tmp 4) rfl _ rfl d hd5 ?_)
        | ((with_reducible (show wpList _ _ _ (⟨some 46, _, _, _, _, _⟩ :: _) _ _)); refine wpList_row (o := ⟨some 46, _, _, _, _, _⟩) rfl 29 (.tmp 5) rfl _ rfl _ _ _ ha5 arDesc rfl arSize ?_)
        | (go_at_call 7; refine (HR.out _ he5).mono ?_; rintro e w6 ⟨he6, r1, d1, s1, n1, r2, d2, s2, n2, rfl, hX2, hY2⟩)
        | (refine wpList_put rfl 29 (.tmp 13) (.tmp 49) rfl _ (arC X r1 d1 s1 n1) rfl rfl _ _ ((Ext.alloc (w6.alloc (.cells arZ 29)) (.cells arZ 29)).blk _ _ (Blk.new w6 _)) arSize rfl (ar_one ..) ?_; intro w7 hx7 hc7)
        | (refine wpList_put rfl 29 (.tmp 14) (.tmp 50) rfl _ (arC Y r2 d2 s2 n2) rfl rfl _ _ (hc7.blk (Blk.new1 _ _ _ (by simp)) (by omega)) arSize rfl (ar_one ..) ?_; intro w8 hy8 hc8))
      have hE : Ext w6 w8 := hc8.ext (hc7.ext ((Ext.alloc _ _).trans (Ext.alloc _ _)) (Nat.le_refl _)) (by omega)
      have hE5 : Ext wa w8 := he6.trans hE
      have hx8 := hc8.blk hx7 (by omega)
      refine wp_name (fun wb => Ext w wb ∧ DsAt wb bd d ∧ ArAt wb (bd + 1) a q c p m ∧ ArAt wb (bd + 1 + 1) b q' c' p' m' ∧ ArAt wb xb X q1 c1 p1 m1 ∧ ArAt wb (xb + 1) Y q2 c2 p2 m2 ∧ ArW wb X q1 c1 p1 m1 ∧ ArW wb Y q2 c2 p2 m2 ∧ ArAt wb w6.heap.size X r1 d1 s1 n1 ∧ ArAt wb (w6.heap.size + 1) Y r2 d2 s2 n2 ∧ ArW wb X r1 d1 s1 n1 ∧ ArW wb Y r2 d2 s2 n2)
        ⟨he5.trans hE5, hd5.ext hE5, ha5.ext hE5, hb5.ext hE5, hx5.ext hE5, hy5.ext hE5, hX.ext hE5, hY.ext hE5, hx8, hy8, hX2.ext hE, hY2.ext hE⟩ ?_
      clear hE hE5 hc7 hc8 hx7 hx8 hy8 hX hY hX2 hY2 hx5 hy5 he6 he5 hd5 ha5 hb5 HR
      generalize w6.heap.size = yb
      rintro wb ⟨he5, hd5, ha5, hb5, HQ⟩
      have HQ5 := Lib.hid HQ
      clear HQ
      go_upto_region 8 with (first
        | ((with_reducible (show wpList _ _ _ (⟨some 54, _, _, _, _, _⟩ :: _) _ _)); refine wpList_ds (o := ⟨some 54, _, _, _, _, _⟩) rfl (.tmp 4) rfl _ rfl d hd5 ?_)
        | ((with_reducible (show wpList _ _ _ (⟨some 55, _, _, _, _, _⟩ :: _) _ _)); refine wpList_row (o := ⟨some 55, _, _, _, _, _⟩) rfl 29 (.tmp 5) rfl _ rfl _ _ _ ha5 arDesc rfl arSize ?_)
        | (go_at_call 8; refine (HPg.out _ he5).mono ?_; rintro e w6 ⟨he6, g1, k1, rfl, hg1⟩))
      have hd6 := hd5.ext he6
      have ha6 := ha5.ext he6
      have HG1 := Lib.hid hg1
      clear hg1
      go_upto_region 9 with (first
        | ((with_reducible (show wpList _ _ _ (⟨some 60, _, _, _, _, _⟩ :: _) _ _)); refine wpList_ds (o := ⟨some 60, _, _, _, _, _⟩) rfl (.tmp 4) rfl _ rfl d hd6 ?_)
        | ((with_reducible (show wpList _ _ _ (⟨some 61, _, _, _, _, _⟩ :: _) _ _)); refine wpList_row (o := ⟨some 61, _, _, _, _, _⟩) rfl 29 (.tmp 5) rfl _ rfl _ _ _ ha6 arDesc rfl arSize ?_)
        | (go_at_call 9; refine (HRg.out _ (he5.trans he6)).mono ?_; rintro e w7 ⟨he7, g2, k2, rfl, hg2⟩))
      have hE7 := he6.trans he7
      have hd7 := hd5.ext hE7
      have ha7 := ha5.ext hE7
      have hb7 := hb5.ext hE7
      have HE7 := Lib.hid (And.intro hE7 he7)
      have HE5 := Lib.hid he5
      have HG2 := Lib.hid hg2
      clear hg2 hd6 ha6 hd5 ha5 hb5 he6 he7 hE7 he5
      go_upto_region 10 with (first
        | ((with_reducible (show wpList _ _ _ (⟨some 66, _, _, _, _, _⟩ :: _) _ _)); refine wpList_ds (o := ⟨some 66, _, _, _, _, _⟩) rfl (.tmp 4) rfl _ rfl d hd7 ?_)
        | ((with_reducible (show wpList _ _ _ (⟨some 67, _, _, _, _, _⟩ :: _) _ _)); refine wpList_row (o := ⟨some 67, _, _, _, _, _⟩) rfl 29 (.tmp 5) rfl _ rfl _ _ _ ha7 arDesc rfl arSize ?_)
        | ((with_reducible (show wpList _ _ _ (⟨some 68, _, _, _, _, _⟩ :: _) _ _)); refine wpList_row (o := ⟨some 68, _, _, _, _, _⟩) rfl 29 (.tmp 6) rfl _ rfl _ _ _ hb7 arDesc rfl arSize ?_)
        | (go_at_call 10; refine (HPw.out _ (HE5.out.trans HE7.out.1)).mono ?_; rintro e w8 ⟨he8, g3, k3, rfl, hg3⟩))
      have hd8 := hd7.ext he8
      have ha8 := ha7.ext he8
      have hb8 := hb7.ext he8
      have HG3 := Lib.hid hg3
      have HE8 := Lib.hid he8
      clear hg3 hd7 ha7 hb7 he8
      go_upto_region 11 with (first
        | ((with_reducible (show wpList _ _ _ (⟨some 73, _, _, _, _, _⟩ :: _) _ _)); refine wpList_ds (o := ⟨some 73, _, _, _, _, _⟩) rfl (.tmp 4) rfl _ rfl d hd8 ?_)
        | ((with_reducible (show wpList _ _ _ (⟨some 74, _, _, _, _, _⟩ :: _) _ _)); refine wpList_row (o := ⟨some 74, _, _, _, _, _⟩) rfl 29 (.tmp 5) rfl _ rfl _ _ _ ha8 arDesc rfl arSize ?_)
        | ((with_reducible (show wpList _ _ _ (⟨some 75, _, _, _, _, _⟩ :: _) _ _)); refine wpList_row (o := ⟨some 75, _, _, _, _, _⟩) rfl 29 (.tmp 6) rfl _ rfl _ _ _ hb8 arDesc rfl arSize ?_)
        | (go_at_call 11; refine (HRw.out _ ((HE5.out.trans HE7.out.1).trans HE8.out)).mono ?_; rintro e w9 ⟨he9, g4, k4, rfl, hg4⟩))
      have he59 : Ext wb w9 := (HE7.out.1.trans HE8.out).trans he9
      have HW := Lib.hid (And.intro (HE5.out.trans he59) (And.intro ((HG1.out.ext HE7.out.2).ext (HE8.out.trans he9)) (And.intro (HG2.out.ext (HE8.out.trans he9)) (And.intro (HG3.out.ext he9) hg4))))
      obtain ⟨z1, z2, z3, z4, z5, z6, z7, z8⟩ := HQ5.out
      have y1 := z1.ext he59
      have y2 := z2.ext he59
      have y5 := z5.ext he59
      have y6 := z6.ext he59
      have HY := Lib.hid (And.intro (z3.ext he59) (And.intro (z4.ext he59) (And.intro (z7.ext he59) (z8.ext he59))))
      clear z1 z2 z3 z4 z5 z6 z7 z8 HQ5 he59 hg4 HG1 HG2 HG3 HE7 HE8 HE5 he9 hd8 ha8 hb8 HPg HRg HPw HRw
      have hbb : (bnd == bnd) = true := by simp
      have hee : (er == er) = true := by simp
      have hpp : (pe == pe) = true := by simp
      have hww : (we == we) = true := by simp
      go_wp2_with (first
        | ((with_reducible (show wpList _ _ _ (⟨some 79, _, _, _, _, _⟩ :: _) _ _)); refine wpList_row (o := ⟨some 79, _, _, _, _, _⟩) rfl 29 (.tmp 9) rfl _ rfl _ _ _ y1 arDesc rfl arSize ?_)
        | ((with_reducible (show wpList _ _ _ (⟨some 80, _, _, _, _, _⟩ :: _) _ _)); refine wpList_row (o := ⟨some 80, _, _, _, _, _⟩) rfl 29 (.tmp 13) rfl _ rfl _ _ _ y5 arDesc rfl arSize ?_)
        | ((with_reducible (show wpList _ _ _ (⟨some 83, _, _, _, _, _⟩ :: _) _ _)); refine wpList_row (o := ⟨some 83, _, _, _, _, _⟩) rfl 29 (.tmp 10) rfl _ rfl _ _ _ y2' arDesc rfl arSize ?_)
        | ((with_reducible (show wpList _ _ _ (⟨some 84, _, _, _, _, _⟩ :: _) _ _)); refine wpList_row (o := ⟨some 84, _, _, _, _, _⟩) rfl 29 (.tmp 14) rfl _ rfl _ _ _ y6' arDesc rfl arSize ?_)
        | (go_at_call 12; (with_reducible refine (HS1.out _ _ _ _ _ _ _ _ _ HY.out.1 HY.out.2.2.1).mono ?_); rintro e wc ⟨rfl, hec⟩; have y2' := y2.ext hec; have y6' := y6.ext hec)
        | (go_at_call 12; refine (HS2.out _ _ _ _ _ _ _ _ _ (HY.out.2.1.ext hec) (HY.out.2.2.2.ext hec)).mono ?_; rintro e wd ⟨rfl, hed⟩)
        | (go_at_call 13; (with_reducible refine (SameWrites_any _ _ _ _ _ _ PG PG _ ((HW.out.2.1.ext hec).ext hed) ((HW.out.2.2.1.ext hec).ext hed) rfl rfl HG.out HG.out).mono ?_); rintro e we' ⟨rfl, ne, rfl⟩)
        | (go_at_call 13; refine (SameWrites_any _ _ _ _ _ _ WR WR _ (((HW.out.2.2.2.1.ext hec).ext hed).ext (Ext.drewN _ _)) (((HW.out.2.2.2.2.ext hec).ext hed).ext (Ext.drewN _ _)) rfl rfl HGw.out HGw.out).mono ?_; rintro e wf ⟨rfl, nf, rfl⟩))
      go_ret
      exact ⟨rfl, ((HW.out.1.trans hec).trans hed).trans (Ext.drewN _ _)⟩
end Go.Proofs.YtpefkjhiaflonaaGreat
