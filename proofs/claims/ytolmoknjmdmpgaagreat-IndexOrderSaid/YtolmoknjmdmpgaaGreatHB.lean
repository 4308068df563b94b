/- The law IndexOrder: the bases of a tree, and its walk. -/
import Derived.Test.YtolmoknjmdmpgaaGreatFY
import Derived.Test.YtolmoknjmdmpgaaGreatFR
import Derived.Test.YtolmoknjmdmpgaaGreatFE
set_option linter.unusedSimpArgs false
set_option linter.unusedVariables false
namespace Dsd
open Go.Proofs.YtolmoknjmdmpgaaGreat (encNE encNS acycB)
theorem entAt_zero (x : Ent) (E : List Ent) : entAt (x :: E) 0 = x := rfl
theorem entAt_succ (x : Ent) (E : List Ent) (k : Nat) : entAt (x :: E) (k + 1) = entAt E k := by simp [entAt, List.getD]
theorem go_sub {f : Int → Int → List Int × Int} {most : Int} : ∀ (E : List Ent) (P : List Part) (out : List Int), P.length = E.length → (∀ k, k < P.length → ∀ mo : Int, (((P.getD k ([], [])).1.length : Nat) : Int) ≤ mo → f (entAt E k).2 mo = ((P.getD k ([], [])).1.map (·.2), 0)) →
    (out.length : Int) + ((itsOf P).length : Int) ≤ most → belowGo f most out E = (out ++ (itsOf P).map (·.2), 0)
  | [], P, out, hl, _, _ => by
    obtain rfl : P = [] := List.eq_nil_of_length_eq_zero hl
    simp [belowGo, itsOf]
  | x :: E, [], out, hl, _, _ => by simp at hl
  | x :: E, y :: P, out, hl, hf, hm => by
    have e : itsOf (y :: P) = y.1 ++ itsOf P := itsOf_cons y P
    rw [e, List.length_append] at hm
    have h0 := hf 0 (by simp) (most - (out.length : Int)) (by simp only [List.getD_cons_zero]; omega)
    rw [entAt_zero, List.getD_cons_zero] at h0
    unfold belowGo
    rw [h0, if_neg (by simp), if_neg (by simp only [List.length_append, List.length_map]; omega)]
    rw [go_sub E P (out ++ y.1.map (·.2)) (by simpa using hl) (fun k hk mo hmo => by
      have := hf (k + 1) (by simpa using hk) mo (by rw [List.getD_cons_succ]; exact hmo)
      rwa [entAt_succ, List.getD_cons_succ] at this) (by simp only [List.length_append, List.length_map]; omega), e]
    simp
theorem below_sub {M : List (List UInt8)} {d : DS} {mn : Nat} : ∀ {l : Nat} {page : Int} {it : List Itm} {pgs : List Int}, Sub M d mn l page it pgs → ∀ most : Int, (it.length : Int) ≤ most → belowD M d l page most = (it.map (·.2), 0)
  | 0, page, it, pgs, ⟨⟨low, h⟩, _⟩, most, _ => by rw [h]; rfl
  | l + 1, page, it, pgs, hs, most, hm => by
    obtain ⟨h0, _, P, hK, rfl, _⟩ := sub_node hs
    unfold belowD
    rw [if_neg (by rw [h0]; simp)]
    rw [go_sub _ P [] hK.1 (fun k hk mo hmo => below_sub (hK.2 k hk).1 mo hmo) (by simpa using hm)]
    rfl
theorem Gr.basesZ {d : DS} {k : Nat} {M : List (List UInt8)} {h : Hd} {items : List Itm} {pgs : List Int} (G : Gr d k M h items pgs) (hk : k ≤ 60) : basesE M h d = 0 ∧ basesL M h d = items.map (·.2) ∧ acycB M h d = true := by
  have hz := G.door hk
  have hl := G.len
  have hb := below_sub G.tree.sub 4096 (by omega)
  have h1 : basesE M h d = 0 := by unfold basesE; rw [if_neg (by rw [hz]; simp), hb]
  have h2 : basesL M h d = items.map (·.2) := by unfold basesL; rw [if_neg (by rw [hz]; simp), hb]
  refine ⟨h1, h2, ?_⟩
  unfold Go.Proofs.YtolmoknjmdmpgaaGreat.acycB
  rw [h1, h2, Bool.and_eq_true, decide_eq_true_eq]
  exact ⟨by decide, by rw [List.length_map]; omega⟩
theorem nd_dec {d : DS} {lv : Int} {s : List UInt8} (h : NdOK d lv s) : decE d.interval s = 0 ∧ 1 ≤ (decNd d.interval s).level ∧ (decNd d.interval s).level ≤ lv ∧ 2 ≤ (decNd d.interval s).ents.length := by
  obtain ⟨nd, rfl, he, h1, h2, h3⟩ := h
  obtain ⟨g1, _, _⟩ := encNE_zero he
  obtain ⟨d1, d2⟩ := dec_of_enc he
  rw [encNS_ok he]
  have e0 : decE d.interval (encN d.interval nd) = 0 := by unfold decE; rw [g1, d1]; simp
  have e1 : decNd d.interval (encN d.interval nd) = nd := by unfold decNd; rw [if_pos e0, d2]
  rw [e0, e1]
  exact ⟨rfl, h1, h2, h3⟩
end Dsd
namespace Go.Proofs.YtolmoknjmdmpgaaGreat
open Go.RowKit Dsd
set_option maxRecDepth 100000 in
set_option maxHeartbeats 4000000 in
theorem IndexOrder_any (d : DS) (p : Option Addr) (cap n : Nat) (bs : List (List UInt8)) (w : World) (hs : Strs w p bs) (hn : bs.length = n) (hcap : n ≤ cap) (hcm : cap ≤ maxLen) :
    Calls Tryz.prog 5 #[.agg #[.int .i64 d.id, .int .i64 d.org, .int .i64 d.format, .int .i64 d.length, .int .i64 d.block, .int .i64 d.keyAt, .int .i64 d.keyLength, .int .i64 d.interval, .int .i64 d.area, .int .i64 d.freeInterval, .int .i64 d.freeArea, .int .i64 d.base, .int .i64 d.altAt, .int .i64 d.altLength, .bool d.unique, .int .i64 d.cls, .string ⟨d.volume.toArray⟩, .string ⟨d.owner.toArray⟩, .int .i64 d.created, .int .i64 d.expires, .bool d.archived], .slice p n cap] w fun e w' => e = .returned (.bool true) ∧ Ext w w' := by
  have hL : n ≤ maxLen := Nat.le_trans hcap hcm
  clear hcap hcm
  have hx0 := Ext.alloc w (.cells #[.int .i64 d.id, .int .i64 d.org, .int .i64 d.format, .int .i64 d.length, .int .i64 d.block, .int .i64 d.keyAt, .int .i64 d.keyLength, .int .i64 d.interval, .int .i64 d.area, .int .i64 d.freeInterval, .int .i64 d.freeArea, .int .i64 d.base, .int .i64 d.altAt, .int .i64 d.altLength, .bool d.unique, .int .i64 d.cls, .string ⟨d.volume.toArray⟩, .string ⟨d.owner.toArray⟩, .int .i64 d.created, .int .i64 d.expires, .bool d.archived] 26)
  have hb0 := Blk.new w (.cells #[.int .i64 d.id, .int .i64 d.org, .int .i64 d.format, .int .i64 d.length, .int .i64 d.block, .int .i64 d.keyAt, .int .i64 d.keyLength, .int .i64 d.interval, .int .i64 d.area, .int .i64 d.freeInterval, .int .i64 d.freeArea, .int .i64 d.base, .int .i64 d.altAt, .int .i64 d.altLength, .bool d.unique, .int .i64 d.cls, .string ⟨d.volume.toArray⟩, .string ⟨d.owner.toArray⟩, .int .i64 d.created, .int .i64 d.expires, .bool d.archived] 26)
  have HSh := Lib.hid (fun W (hh : Strs W p bs) => Short_any p cap n bs 60 40 W hh hn (by omega))
  have HKe := Lib.hid (fun W => IsKeyedR_any d W)
  have Hs := Lib.hid hs
  have HAw := Lib.hid (fun W => awake22_any W)
  cases hk : keyedB d
  · rw [hk] at HKe
    clear hs hn hL hk
    go_enter Tryz.func5, Tryz.ntmps5
    go_upto_region 1 with (fail)
    refine wp_name (fun w0 => Ext w w0 ∧ DsAt w0 w.heap.size d) ⟨hx0, hb0⟩ ?_
    clear hx0 hb0
    rintro w0 ⟨he0, hd0⟩
    go_upto_region 3 with (go_at_call 7; refine (HAw.out _).mono ?_; rintro e w1 ⟨rfl, he1⟩)
    have hx1 := he0.trans he1
    have hd1 := hd0.ext he1
    clear he0 he1 hd0
    go_wp2_with (first
      | ((with_reducible (show wpList _ _ _ (⟨some 19, _, _, _, _, _⟩ :: _) _ _)); refine wpList_ds (o := ⟨some 19, _, _, _, _, _⟩) rfl (.tmp 2) rfl _ rfl d hd1 ?_)
      | (go_at_call 17; refine (HKe.out _).mono ?_; rintro e w2 ⟨rfl, he2⟩))
    go_ret
    exact ⟨rfl, hx1.trans he2⟩
  · rw [hk] at HKe
    cases hsh : shortB bs 60 40
    · rw [hsh] at HSh
      clear hs hn hL hk hsh
      go_enter Tryz.func5, Tryz.ntmps5
      go_upto_region 1 with (fail)
      refine wp_name (fun w0 => Ext w w0 ∧ DsAt w0 w.heap.size d) ⟨hx0, hb0⟩ ?_
      clear hx0 hb0
      rintro w0 ⟨he0, hd0⟩
      go_upto_region 3 with (go_at_call 7; refine (HAw.out _).mono ?_; rintro e w1 ⟨rfl, he1⟩)
      have hx1 := he0.trans he1
      have hd1 := hd0.ext he1
      clear he0 he1 hd0
      go_wp2_with (first
        | ((with_reducible (show wpList _ _ _ (⟨some 19, _, _, _, _, _⟩ :: _) _ _)); refine wpList_ds (o := ⟨some 19, _, _, _, _, _⟩) rfl (.tmp 2) rfl _ rfl d hd1 ?_)
        | (go_at_call 17; refine (HKe.out _).mono ?_; rintro e w2 ⟨rfl, he2⟩)
        | (go_at_call 18; refine (HSh.out _ (Hs.out.ext (hx1.trans he2))).mono ?_; rintro e w3 ⟨rfl, rfl⟩))
      go_ret
      exact ⟨rfl, hx1.trans he2⟩
    · have hmx := short_max hsh
      rw [hsh] at HSh
      have hn60 : n ≤ 60 := by omega
      have HGr := Lib.hid (fun W (hh : Strs W p bs) => grow_any p cap n bs d W hh hn hn60 hmx.2 hk)
      clear hs hn hL hk hsh hmx
      go_enter Tryz.func5, Tryz.ntmps5
      go_upto_region 1 with (fail)
      refine wp_name (fun w0 => Ext w w0 ∧ DsAt w0 w.heap.size d) ⟨hx0, hb0⟩ ?_
      clear hx0 hb0
      rintro w0 ⟨he0, hd0⟩
      go_upto_region 3 with (go_at_call 7; refine (HAw.out _).mono ?_; rintro e w1 ⟨rfl, he1⟩)
      have hx1 := he0.trans he1
      have hd1 := hd0.ext he1
      clear he0 he1 hd0
      go_upto_region 5 with (first
        | ((with_reducible (show wpList _ _ _ (⟨some 19, _, _, _, _, _⟩ :: _) _ _)); refine wpList_ds (o := ⟨some 19, _, _, _, _, _⟩) rfl (.tmp 2) rfl _ rfl d hd1 ?_)
        | (go_at_call 17; refine (HKe.out _).mono ?_; rintro e w2 ⟨rfl, he2⟩)
        | (go_at_call 18; refine (HSh.out _ (Hs.out.ext (hx1.trans he2))).mono ?_; rintro e w3 ⟨rfl, rfl⟩))
      have hx2 := hx1.trans he2
      have hd2 := hd1.ext he2
      clear hx1 he2 hd1
      go_upto_region 6 with (first
        | ((with_reducible (show wpList _ _ _ (⟨some 28, _, _, _, _, _⟩ :: _) _ _)); refine wpList_ds (o := ⟨some 28, _, _, _, _, _⟩) rfl (.tmp 2) rfl _ rfl d hd2 ?_)
        | (go_at_call 19; refine (HGr.out _ (Hs.out.ext hx2)).mono ?_; rintro e w4 ⟨he4, M, h, items, g8, c8, g10, c10, hG, rfl, hsM, hI⟩))
      have hxa := Ext.alloc w4 (.cells #[.int .i64 h.applied, .int .i64 h.count, .int .i64 h.fin, .int .i64 h.root, .int .i64 h.height, .int .i64 h.splits, .int .i64 h.areas] 24)
      have hba := Blk.new w4 (.cells #[.int .i64 h.applied, .int .i64 h.count, .int .i64 h.fin, .int .i64 h.root, .int .i64 h.height, .int .i64 h.splits, .int .i64 h.areas] 24)
      refine wp_name (fun w5 => Ext w w5 ∧ DsAt w5 w.heap.size d ∧ HdAt w5 w4.heap.size h ∧ Strs w5 (some ⟨g8, 0, none⟩) M ∧ Nents w5 (some ⟨g10, 0, none⟩) items) ⟨hx2.trans (he4.trans hxa), hd2.ext (he4.trans hxa), hba, hsM.ext hxa, hI.ext hxa⟩ ?_
      clear hxa hba hx2 hd2 he4 hsM hI
      generalize w4.heap.size = hb at *
      rintro w5 ⟨hx5, hd5, hh5, hs5, hi5⟩
      obtain ⟨⟨pgs, G⟩, hF⟩ := hG
      obtain ⟨hE, hBL, hac⟩ := G.basesZ (Nat.le_refl _)
      have hsm := G.small (Nat.le_refl _)
      have hil : items.length ≤ 61 := G.len
      have hml : M.length ≤ 100000 := by have := G.mlen; have := G.fin; omega
      have HBs : Hid (Calls Tryz.prog 15 #[.iface 29 (.slice (some ⟨g8, 0, none⟩) M.length c8), .agg #[.int .i64 h.applied, .int .i64 h.count, .int .i64 h.fin, .int .i64 h.root, .int .i64 h.height, .int .i64 h.splits, .int .i64 h.areas], .agg #[.int .i64 d.id, .int .i64 d.org, .int .i64 d.format, .int .i64 d.length, .int .i64 d.block, .int .i64 d.keyAt, .int .i64 d.keyLength, .int .i64 d.interval, .int .i64 d.area, .int .i64 d.freeInterval, .int .i64 d.freeArea, .int .i64 d.base, .int .i64 d.altAt, .int .i64 d.altLength, .bool d.unique, .int .i64 d.cls, .string ⟨d.volume.toArray⟩, .string ⟨d.owner.toArray⟩, .int .i64 d.created, .int .i64 d.expires, .bool d.archived]] w5 fun e w' => Ext w5 w' ∧ ∃ q c, e = .returned (.tuple #[.slice q items.length c, .int .i64 0]) ∧ Ints w' q (items.map (·.2))) := Lib.hid (by
        have := Bases22_any (some ⟨g8, 0, none⟩) c8 M.length M h d w5 hs5 rfl hsm hac
        rw [hE, if_pos rfl, hBL] at this
        refine this.mono ?_
        rintro e' w' ⟨a1, q, c, a2, a3⟩
        rw [List.length_map] at a2 a3
        exact ⟨a1, q, c, a2, path_ints a3⟩)
      have HFu := Lib.hid hF
      have HSm := Lib.hid hsm
      have HDe := Lib.hid (fun W (s : List UInt8) (hl : s.length ≤ 1000000) => DecodeNR_any d.interval s hl W)
      have hnn : (((items.length : Nat) : Int) != ((items.length : Nat) : Int)) = false := by simp
      clear G hE hBL hac hF hsm
      go_upto_region 7 with (first
        | ((with_reducible (show wpList _ _ _ (⟨some 38, _, _, _, _, _⟩ :: _) _ _)); refine wpList_hd (o := ⟨some 38, _, _, _, _, _⟩) rfl (.tmp 6) rfl _ rfl h hh5 ?_)
        | ((with_reducible (show wpList _ _ _ (⟨some 39, _, _, _, _, _⟩ :: _) _ _)); refine wpList_ds (o := ⟨some 39, _, _, _, _, _⟩) rfl (.tmp 2) rfl _ rfl d hd5 ?_)
        | (go_at_call 15; refine HBs.out.mono ?_; rintro e w6 ⟨he6, q6, c6, rfl, hl6⟩))
      have HQ6 := Lib.hid (And.intro (hx5.trans he6) (And.intro (hd5.ext he6) (And.intro (hh5.ext he6) (And.intro (hs5.ext he6) (And.intro (hi5.ext he6) hl6)))))
      clear hx5 hd5 hh5 hs5 hi5 he6 hl6 HBs
      go_upto_region 10 with fail
      go_loopw [58] (fun i wr => ∃ j : Nat, j ≤ items.length ∧ i = .int .i64 j ∧ Ext w6 wr) (fun i _ => items.length - (intOf i).toNat)
      case atStart => exact ⟨0, Nat.zero_le _, rfl, Ext.refl _⟩
      case round =>
        obtain ⟨j, hj, rfl, hex⟩ := hrel
        by_cases hjl : j < items.length
        · have hjlI : (j : Int) < items.length := by omega
          obtain ⟨gi, oi, hq, hgil, hic⟩ := (HQ6.out.2.2.2.2.1.ext hex).at j hjl
          simp only [Option.some.injEq, Addr.mk.injEq, and_true] at hq
          obtain ⟨rfl, rfl⟩ := hq
          obtain ⟨ic0, ic1⟩ := hic j hjl
          rw [Nat.zero_add] at ic0 ic1
          obtain ⟨lb, lo, rfl, hlbl, hlc⟩ := (HQ6.out.2.2.2.2.2.ext hex).at j (by rw [List.length_map]; exact hjl)
          have lc := hlc j (by rw [List.length_map]; exact hjl)
          have e2 : (items.map (·.2)).getD j 0 = (entAt items j).2 := getD_map (fun x : Itm => x.2) items j ([], 0) 0 rfl
          rw [e2] at lc
          have Hex := Lib.hid hex
          have Hjl := Lib.hid hjl
          clear hic hlc e2
          generalize (entAt items j).1 = sj at *
          generalize (entAt items j).2 = xj at *
          have hne : (xj != xj) = false := by simp
          go_upto_region 12 with fail
          have hxb := Ext.alloc wr (.cells #[.string ⟨sj.toArray⟩, .int .i64 xj] 50)
          have hbb := Blk.new wr (.cells #[.string ⟨sj.toArray⟩, .int .i64 xj] 50)
          refine wp_name (fun w7 => Ext wr w7 ∧ Blk w7 wr.heap.size (.cells #[.string ⟨sj.toArray⟩, .int .i64 xj] 50)) ⟨hxb, hbb⟩ ?_
          clear hxb hbb ic0 ic1 hgil
          have hlw := hlbl
          rintro w7 ⟨hx7, hb7⟩
          have k1 : w7.cell? ⟨wr.heap.size, 1, none⟩ = some (.int .i64 xj) := Blk.val hb7 1 _ rfl
          have lk := Blk.lt hb7
          have lc7 := (hx7.cell lb (lo + j) hlbl).trans lc
          have ll7 := Nat.lt_of_lt_of_le hlbl hx7.size
          have Hx7 := Lib.hid (Hex.out.trans hx7)
          clear hx7 hb7 lc hlbl hlw hex
          go_quiet (fail)
          go_wp2_with fail
          refine ⟨⟨j + 1, by have := Hjl.out; omega, by go_num, Hx7.out.trans (by first | exact Ext.drewN _ _ | exact Ext.drew _ | exact Ext.refl _)⟩, ?_⟩
          have := Hjl.out
          simp [intOf]; omega
        · refine wp_name (fun wA => Ext w6 wA) hex ?_
          clear hex
          rintro wA hexA
          have HxA := Lib.hid hexA
          clear hexA
          go_upto_region 16 with fail
          go_loopw [73] (fun i wr => ∃ t : Nat, t ≤ M.length ∧ i = .int .i64 t ∧ Ext wA wr) (fun i _ => M.length - (intOf i).toNat)
          case atStart => exact ⟨0, Nat.zero_le _, rfl, Ext.refl _⟩
          case round =>
            obtain ⟨t, ht, rfl, hex⟩ := hrel
            by_cases htl : t < M.length
            · have htlI : (t : Int) < M.length := by omega
              obtain ⟨gi, oi, hq, hgil, hic⟩ := (HQ6.out.2.2.2.1.ext (HxA.out.trans hex)).at t htl
              simp only [Option.some.injEq, Addr.mk.injEq, and_true] at hq
              obtain ⟨rfl, rfl⟩ := hq
              have ic := hic t htl
              rw [Nat.zero_add] at ic
              have hsl := HSm.out.at t
              have hcase : t = 0 ∨ M.getD t [] = [] ∨ (0 < t ∧ M.getD t [] ≠ [] ∧ decE d.interval (M.getD t []) = 0 ∧ 1 ≤ (decNd d.interval (M.getD t [])).level ∧ (decNd d.interval (M.getD t [])).level ≤ h.height ∧ 2 ≤ (decNd d.interval (M.getD t [])).ents.length) := by
                by_cases h1 : t = 0
                · exact .inl h1
                · by_cases h2 : M.getD t [] = []
                  · exact .inr (.inl h2)
                  · exact .inr (.inr ⟨by omega, h2, nd_dec (HFu.out t (by omega) h2)⟩)
              have Hex := Lib.hid hex
              have Htl := Lib.hid htl
              have hdw := HQ6.out.2.1.ext (HxA.out.trans hex)
              have k7 : wr.cell? ⟨w.heap.size, 7, none⟩ = some (.int .i64 d.interval) := Blk.val hdw 7 _ rfl
              have l7 := Blk.lt hdw
              clear hic hdw hex
              generalize M.getD t [] = s at *
              have HD := HDe.out wr s hsl
              unfold DecNOut at HD
              have HD := Lib.hid HD
              generalize (decNd d.interval s).level = lv at *
              generalize (decNd d.interval s).next = nx at *
              generalize (decNd d.interval s).ents = es at *
              generalize decE d.interval s = er at *
              go_upto_region 19 with (first
                | (go_at_call 20; refine HD.out.mono ?_; rintro e w8 ⟨he8, q8, c8', rfl, ho8⟩))
              have hxn := Ext.alloc w8 (.cells #[.int .i64 lv, .int .i64 nx, .slice q8 es.length c8'] 53)
              have hbn := Blk.new w8 (.cells #[.int .i64 lv, .int .i64 nx, .slice q8 es.length c8'] 53)
              refine wp_name (fun w9 => Ext wA w9 ∧ Blk w9 w8.heap.size (.cells #[.int .i64 lv, .int .i64 nx, .slice q8 es.length c8'] 53)) ⟨Hex.out.trans (he8.trans hxn), hbn⟩ ?_
              clear hxn hbn he8 ho8 ic hgil k7 l7
              generalize w8.heap.size = nb at *
              rintro w9 ⟨hx9, hb9⟩
              have Hx9 := Lib.hid hx9
              have hh9 := HQ6.out.2.2.1.ext (HxA.out.trans hx9)
              have n0 : w9.cell? ⟨nb, 0, none⟩ = some (.int .i64 lv) := Blk.val hb9 0 _ rfl
              have n2 : w9.cell? ⟨nb, 2, none⟩ = some (.slice q8 es.length c8') := Blk.val hb9 2 _ rfl
              have k4 : w9.cell? ⟨hb, 4, none⟩ = some (.int .i64 h.height) := Blk.val hh9 4 _ rfl
              have ln := Blk.lt hb9
              have lh := Blk.lt hh9
              clear hx9 hb9 hh9
              rcases hcase with h1 | h1 | ⟨h1, h2, h3, h4, h5, h6⟩
              · subst h1
                go_wp2_with fail
                refine ⟨⟨0 + 1, by have := Htl.out; omega, by go_num, Hx9.out⟩, ?_⟩
                have := Htl.out
                simp [intOf]; omega
              · subst h1
                go_wp2_with fail
                all_goals
                  refine ⟨⟨t + 1, by have := Htl.out; omega, by go_num, Hx9.out⟩, ?_⟩
                  have := Htl.out
                  simp [intOf]; omega
              · subst h3
                have h2b : (s == ([] : List UInt8)) = false := by simpa using h2
                have h1I : (0 : Int) < (t : Int) := by omega
                have d4 : decide (lv < 1) = false := by simp; omega
                have d4N : ¬ lv < 1 := by omega
                have d5 : decide (h.height < lv) = false := by simp; omega
                have d5N : ¬ h.height < lv := by omega
                have d6 : decide (((es.length : Nat) : Int) < 2) = false := by simp; omega
                have d6N : ¬ es.length < 2 := by omega
                clear h2 h4 h5 h6
                go_wp2_with fail
                refine ⟨⟨t + 1, by have := Htl.out; omega, by go_num, Hx9.out⟩, ?_⟩
                have := Htl.out
                simp [intOf]; omega
            · go_wp2_with fail
              go_ret
              exact ⟨rfl, HQ6.out.1.trans (HxA.out.trans hex)⟩
end Go.Proofs.YtolmoknjmdmpgaaGreat
