/- The walk of the reference's Steps. -/
import Derived.Test.YtmnpappbacndlaaGreatDoorSB
import Derived.Test.YtmnpappbacndlaaGreatDoorXF
set_option linter.unusedSimpArgs false
set_option linter.unusedVariables false
namespace Dsd
open Go Go.RowKit
def hdL (L : List SW) (j : Nat) : List SW := (L.take j).filter fun x => x.1 == 0
def rsL (L : List SW) (j : Nat) : List SW := (L.take j).filter fun x => !(x.1 == 0)
theorem take_snocS {L : List SW} {j : Nat} (h : j < L.length) : L.take (j + 1) = L.take j ++ [swAt L j] := by
  rw [List.take_succ_eq_append_getElem h]
  simp [swAt, List.getD, h]
theorem hdL_yes {L : List SW} {j : Nat} (h : j < L.length) (hx : ((swAt L j).1 == 0) = true) : hdL L (j + 1) = hdL L j ++ [swAt L j] ∧ rsL L (j + 1) = rsL L j := by
  unfold hdL rsL
  rw [take_snocS h, List.filter_append, List.filter_append]
  simp [List.filter_cons, hx]
theorem hdL_no {L : List SW} {j : Nat} (h : j < L.length) (hx : ((swAt L j).1 == 0) = false) : hdL L (j + 1) = hdL L j ∧ rsL L (j + 1) = rsL L j ++ [swAt L j] := by
  unfold hdL rsL
  rw [take_snocS h, List.filter_append, List.filter_append]
  simp [List.filter_cons, hx]
theorem hdL_le (L : List SW) (j : Nat) : (hdL L j).length ≤ j ∧ (rsL L j).length ≤ j := by
  have h1 := List.length_filter_le (fun x : SW => x.1 == 0) (L.take j)
  have h2 := List.length_filter_le (fun x : SW => !(x.1 == 0)) (L.take j)
  unfold hdL rsL
  have := List.length_take_le j L
  omega
end Dsd
namespace Go.Proofs.YtmnpappbacndlaaGreatDoor
open Go.RowKit Dsd
theorem own_grownS {w w' : World} {B : Nat} {e : TypeId} {k n : Nat} {v : Value} {xs : List Value} {row : Option Nat} (h : w.ownsRow B e k v n xs) (hg : w.grownBy w' row) (hne : ∀ g, v.ownBlock = some g → row ≠ some g) : w'.ownsRow B e k v n xs := by
  obtain ⟨hl, ⟨hv, h0⟩ | ⟨g', cap, cur, hv, h1, h2, h3⟩⟩ := h
  · exact ⟨hl, .inl ⟨hv, h0⟩⟩
  · subst hv
    exact ⟨hl, .inr ⟨g', cap, cur, rfl, h1, Blk.grown h2 hg (hne g' rfl), h3⟩⟩
theorem cells_takeS {w : World} {g : Nat} {E : TypeId} {cur : Array Value} {n : Nat} {xs : List Value} (hb : Blk w g (.cells cur E)) (h : cur.toList.take n = xs) : Cells w (some ⟨g, 0, none⟩) xs := by
  refine .inr ⟨g, 0, rfl, Blk.lt hb, fun i hi => ?_⟩
  subst h
  have h1 : i < cur.size := by simp at hi; omega
  have h2 : i < n := by simp at hi; omega
  refine Blk.val hb (0 + i) _ ?_
  simp [List.getD, List.getElem?_take, h2, h1]
theorem own_cellsS {w : World} {B : Nat} {e : TypeId} {k n c : Nat} {q : Option Addr} {xs : List Value} (h : w.ownsRow B e k (.slice q n c) n xs) : Cells w q xs ∧ n ≤ c ∧ c ≤ maxLen := by
  obtain ⟨hl, ⟨hv, h0⟩ | ⟨g', cap, cur, hv, h1, h2, h3, h4, h5, h6⟩⟩ := h
  · cases hv
    exact ⟨.inl (List.eq_nil_of_length_eq_zero (by omega)), Nat.le_refl _, by decide⟩
  · cases hv
    exact ⟨cells_takeS h2 h6, h3, h4⟩
theorem own_ptr {w : World} {B : Nat} {e : TypeId} {k n c : Nat} {q : Option Addr} {xs : List Value} (h : w.ownsRow B e k (.slice q n c) n xs) (hn : 0 < n) : ∃ g, q = some ⟨g, 0, none⟩ := by
  obtain ⟨_, ⟨hv, h0⟩ | ⟨g, cap, cur, hv, _⟩⟩ := h
  · omega
  · cases hv; exact ⟨g, rfl⟩
theorem own_swv {w : World} {B : Nat} {E : TypeId} {n c : Nat} {q : Option Addr} {L : List SW} (h : w.ownsRow B E 2 (.slice q n c) n (swC L)) (hl : L.length = n) : SwV E w (.slice q n c) L := by
  obtain ⟨h1, h2, h3⟩ := own_cellsS h
  refine ⟨q, c, by rw [hl], h1, by omega, h3, fun g o hq => ?_⟩
  obtain ⟨_, ⟨hv, h0⟩ | ⟨g', cap, cur, hv, _, hb, _⟩⟩ := h
  · cases hv; cases hq
  · cases hv; cases hq; exact ⟨cur, hb⟩
def sliceLenS : Value → Nat
  | .slice _ n _ => n
  | _ => 0
/-- Two rows that grow, each in a block of its own. -/
structure Two (w wr : World) (E : TypeId) (h r : Value) (A B : List SW) : Prop where
  ext : Ext w wr
  oh : wr.ownsRow w.heap.size E 2 h A.length (swC A)
  or : wr.ownsRow w.heap.size E 2 r B.length (swC B)
  ne : ∀ g, h.ownBlock = some g → r.ownBlock ≠ some g
theorem Two.swap {w wr : World} {E : TypeId} {h r : Value} {A B : List SW} (t : Two w wr E h r A B) : Two w wr E r h B A := ⟨t.ext, t.or, t.oh, fun g h1 h2 => t.ne g h2 h1⟩
theorem Two.more {w wr w2 : World} {E : TypeId} {h r : Value} {A B : List SW} (t : Two w wr E h r A B) (e : Ext wr w2) : Two w w2 E h r A B := ⟨t.ext.trans e, own_ext t.oh e, own_ext t.or e, t.ne⟩
theorem Two.app {w wr w2 : World} {E : TypeId} {h r v : Value} {A B : List SW} {x : SW} (t : Two w wr E h r A B) (ho : w2.ownsRow w.heap.size E 2 v (A.length + 1) (swC A ++ swC [x])) (hg : wr.grownBy w2 h.ownBlock) (hb : v.ownBlock = h.ownBlock ∨ ∀ g, v.ownBlock = some g → wr.heap.size ≤ g) : Two w w2 E v r (A ++ [x]) B := by
  refine ⟨Ext.trans' t.ext (Below.of_grown hg t.oh (Nat.le_refl _) t.ext.size), by rw [swC_app, List.length_append]; exact ho, own_grownS t.or hg (fun g h1 h2 => t.ne g h2 h1), fun g h1 h2 => ?_⟩
  rcases hb with hb | hb
  · rw [hb] at h1; exact t.ne g h1 h2
  · have := hb g h1
    have := t.or.lt g h2
    omega
set_option maxRecDepth 100000 in
set_option maxHeartbeats 4000000 in
theorem StepsR_any (p : Option Addr) (cap n : Nat) (L : List SW) (w : World) (hc : Cells w p (swC L)) (hn : L.length = n) (hm : n ≤ 400) :
    Calls Tryz.prog 6 #[.slice p n cap] w fun e w' => Ext w w' ∧ ∃ v vs, e = .returned v ∧ w'.ownsRow w.heap.size 22 1 v (refAll (hdL L n) (rsL L n)).length vs ∧ SwVs 25 w' vs (refAll (hdL L n) (rsL L n)) := by
  have Hc := Lib.hid hc
  have Hn := Lib.hid hn
  clear hc hn
  obtain ⟨LL, hLL⟩ : ∃ LL, LL = refAll (hdL L n) (rsL L n) := ⟨_, rfl⟩
  rw [← hLL]
  have HLL := Lib.hid hLL
  clear hLL
  go_enter Tryz.func6, Tryz.ntmps6
  go_upto_region 2 with (fail)
  have h0 : Two w ((w.alloc (.cells #[] 25)).alloc (.cells #[] 25)) 25 (.slice (some ⟨w.heap.size, 0, none⟩) 0 0) (.slice (some ⟨w.heap.size + 1, 0, none⟩) 0 0) [] [] := by
    refine ⟨(Ext.alloc _ _).trans (Ext.alloc _ _), own_ext (World.ownsRow_made w #[] 0 (Nat.le_refl _) (by simp) rfl) (Ext.alloc _ _), ?_, fun g h1 h2 => ?_⟩
    · have := World.ownsRow_made (base := w.heap.size) (e := 25) (size := 2) (w.alloc (.cells #[] 25)) #[] 0 (by simp) (by simp) rfl
      simpa [swC] using this
    · simp [Value.ownBlock] at h1 h2; omega
  refine wp_name (fun w1 => Two w w1 25 (.slice (some ⟨w.heap.size, 0, none⟩) 0 0) (.slice (some ⟨w.heap.size + 1, 0, none⟩) 0 0) [] []) h0 ?_
  clear h0
  rintro w1 h1
  go_wp2_with fail
  go_loopw [3, 4, 5] (fun h r i wr => ∃ j : Nat, j ≤ n ∧ i = .int .i64 j ∧ Two w wr 25 h r (hdL L j) (rsL L j) ∧ (∃ b c, h = .slice (some ⟨b, 0, none⟩) (hdL L j).length c) ∧ (∃ b c, r = .slice (some ⟨b, 0, none⟩) (rsL L j).length c)) (fun _ _ i _ => n - (intOf i).toNat)
  case atStart => exact ⟨0, Nat.zero_le _, rfl, by simpa [hdL, rsL] using h1, ⟨_, _, rfl⟩, ⟨_, _, rfl⟩⟩
  case round =>
    clear h1
    obtain ⟨j, hj, rfl, hT, ⟨bh, ch, rfl⟩, ⟨br, cr, rfl⟩⟩ := hrel
    obtain ⟨hl1, hl2⟩ := hdL_le L j
    by_cases hlt : j < n
    · have hltI : (j : Int) < n := by omega
      have hjL : j < L.length := by rw [Hn.out]; exact hlt
      obtain ⟨b, off, rfl, hb, hcc⟩ := swc_at (Hc.out.ext hT.ext) j hjL
      obtain ⟨c1, c2⟩ := hcc j hjL
      have HY := Lib.hid (fun hx => hdL_yes hjL hx)
      have HN := Lib.hid (fun hx => hdL_no hjL hx)
      have HT := Lib.hid hT
      clear hcc hT
      generalize hE1 : hdL L (j + 1) = A1 at *
      generalize hE2 : rsL L (j + 1) = B1 at *
      have HE1 := Lib.hid hE1
      have HE2 := Lib.hid hE2
      clear hE1 hE2
      generalize hdL L j = A at *
      generalize rsL L j = B at *
      generalize swAt L j = x at *
      obtain ⟨u, s⟩ := x
      simp only at c1 c2 HY HN
      have hcells : (#[.int .i64 u, .string ⟨s.toArray⟩] : Array Value).toList = swC [(u, s)] := rfl
      cases hu : u == 0
      · have ⟨e1, e2⟩ := HN.out hu
        subst e1 e2
        have hT2 := Lib.hid ((HT.out.more (Ext.alloc wr (.cells #[.int .i64 u, .string ⟨s.toArray⟩] 25))).swap)
        go_wp2_with (at_builtin; go_must (refine wpList_appB (by rfl) (.tmp 29) (.tmp 34) 22 25 rfl w.heap.size (.agg #[.int .i64 0, .string ByteArray.empty]) 2 24 Tryz.underlying22 infoSW rfl (by decide) _ B.length _ rfl hT2.out.oh ⟨wr.heap.size, 0, none⟩ 1 1 (swC [(u, s)]) rfl rfl (cells_blk (Blk.new wr _)) (swC_one _) (by omega) (by decide) (by have := HT.out.ext.size; simp; omega) ?_; intro v8 w8 ho8 hg8 hb8))
        have hT8 := hT2.out.app ho8 hg8 hb8
        obtain ⟨q8, c8, rfl⟩ := own_slice ho8
        obtain ⟨b8, rfl⟩ := own_ptr ho8 (by omega)
        have HT8 := Lib.hid hT8.swap
        clear ho8 hg8 hb8 hT8
        go_roundw
        case rel => exact ⟨j + 1, by omega, by go_num, by rw [HE1.out, HE2.out]; exact HT8.out, ⟨_, _, by rw [HE1.out]⟩, ⟨_, _, by rw [HE2.out, List.length_append]; rfl⟩⟩
        case measure => simp [intOf]; omega
      · have ⟨e1, e2⟩ := HY.out hu
        subst e1 e2
        have hT2 := Lib.hid (HT.out.more (Ext.alloc wr (.cells #[.int .i64 u, .string ⟨s.toArray⟩] 25)))
        go_wp2_with (at_builtin; go_must (refine wpList_appB (by rfl) (.tmp 22) (.tmp 27) 22 25 rfl w.heap.size (.agg #[.int .i64 0, .string ByteArray.empty]) 2 24 Tryz.underlying22 infoSW rfl (by decide) _ A.length _ rfl hT2.out.oh ⟨wr.heap.size, 0, none⟩ 1 1 (swC [(u, s)]) rfl rfl (cells_blk (Blk.new wr _)) (swC_one _) (by omega) (by decide) (by have := HT.out.ext.size; simp; omega) ?_; intro v8 w8 ho8 hg8 hb8))
        have hT8 := hT2.out.app ho8 hg8 hb8
        obtain ⟨q8, c8, rfl⟩ := own_slice ho8
        obtain ⟨b8, rfl⟩ := own_ptr ho8 (by omega)
        have HT8 := Lib.hid hT8
        clear ho8 hg8 hb8 hT8
        go_roundw
        case rel => exact ⟨j + 1, by omega, by go_num, by rw [HE1.out, HE2.out]; exact HT8.out, ⟨_, _, by rw [HE1.out, List.length_append]; rfl⟩, ⟨_, _, by rw [HE2.out]⟩⟩
        case measure => simp [intOf]; omega
    · have hltI : decide ((j : Int) < n) = false := decide_eq_false (by omega)
      obtain rfl : j = n := by omega
      have Hex := Lib.hid hT.ext
      have HA := Lib.hid (own_cellsS hT.oh)
      have HB := Lib.hid (own_cellsS hT.or)
      clear hT
      generalize hdL L j = A at *
      generalize rsL L j = B at *
      clear Hc Hn
      have hLen : LL.length ≤ 401 := by rw [HLL.out]; have := refAll_len A B.length B (Nat.le_refl _); omega
      go_upto_region 9 with (fail)
      obtain ⟨wo, rfl⟩ : ∃ wo : World, wo = wr := ⟨_, rfl⟩
      refine wp_name (fun w2 => Ext wo w2 ∧ w2.ownsRow wo.heap.size 22 1 (.slice (some ⟨wo.heap.size, 0, none⟩) 0 0) 0 []) ⟨Ext.alloc _ _, World.ownsRow_made wo #[] 0 (Nat.le_refl _) (by simp) rfl⟩ ?_
      rintro w2 ⟨he2, ho2⟩
      have HX2 := Lib.hid he2
      have Ho2 := Lib.hid ho2
      clear he2 ho2
      go_loopw [4, 6, 7] (fun r o _ wr => ∃ (R : List SW) (acc : List (List SW)) (vs : List Value) (b2 o2 c2 : Nat), r = .slice (some ⟨b2, o2, none⟩) R.length c2 ∧ Cells wo (some ⟨b2, o2, none⟩) (swC R) ∧ R.length ≤ c2 ∧ c2 ≤ maxLen ∧ R.length ≤ j ∧ acc ++ refAll A R = LL ∧ Ext wo wr ∧ wr.ownsRow wo.heap.size 22 1 o acc.length vs ∧ SwVs 25 wr vs acc) (fun r _ _ _ => sliceLenS r)
      case atStart => exact ⟨B, [], [], br, 0, cr, rfl, HB.out.1, HB.out.2.1, HB.out.2.2, hl2, by rw [HLL.out]; rfl, HX2.out, Ho2.out, SwVs.nil _ _⟩
      case round =>
        clear hl2
        obtain ⟨R, acc, vs, b2, o2, c2, rfl, hR, hRc, hcm, hRj, hacc, he3, ho3, hv3⟩ := hrel
        obtain ⟨qo, co, rfl⟩ := own_slice ho3
        have hac : acc.length ≤ 401 := by rw [← hacc] at hLen; simp at hLen; omega
        have Hcell := Lib.hid hR
        have Ho3 := Lib.hid ho3
        have Hv3 := Lib.hid hv3
        have He3 := Lib.hid he3
        have Hacc := Lib.hid hacc
        have HAw := Lib.hid (HA.out.1.ext he3)
        have hwz : wo.heap.size ≤ wr.heap.size := he3.size
        clear hR ho3 hv3 he3 hacc
        by_cases hg : 64 < R.length + A.length ∧ 0 < R.length
        · have g1 : decide ((64 : Int) < ((R.length + A.length : Nat) : Int)) = true := decide_eq_true (by omega)
          have g2 : decide ((0 : Int) < (R.length : Int)) = true := decide_eq_true (by omega)
          have g3 : 64 < R.length + A.length := hg.1
          have g4 : 0 < R.length := hg.2
          have HSt := Lib.hid (refAll_step hg)
          clear hg
          obtain ⟨m0, hm0⟩ : ∃ m0, m0 = min R.length 64 := ⟨_, rfl⟩
          rw [← hm0] at HSt
          have hmn : (if (64 : Int) < (R.length : Int) then (64 : Int) else (R.length : Int)) = (m0 : Int) := by split <;> omega
          have hm1 : m0 ≤ R.length := by omega
          have hm2 : 0 < m0 := by omega
          have hm3 : m0 ≤ c2 := by omega
          clear hm0
          have HT : Hid ((R.take m0).length = m0 ∧ (R.drop m0).length = R.length - m0) := Lib.hid ⟨by simp; omega, by simp⟩
          have HTc : Hid (Cells wr (some ⟨b2, o2, none⟩) (swC (R.take m0))) := Lib.hid (by rw [← swC_take]; exact (Hcell.out.ext He3.out).takeK _)
          have HDc : Hid (Cells wo (some ⟨b2, o2 + m0 * 2, none⟩) (swC (R.drop m0))) := Lib.hid (by rw [← swC_drop]; exact Hcell.out.dropK _)
          go_upto_region 11 with (fail)
          have hf0 : (wr.alloc (.cells #[] 25)).ownsRow wr.heap.size 25 2 (.slice (some ⟨wr.heap.size, 0, none⟩) 0 0) 0 [] := World.ownsRow_made wr #[] 0 (Nat.le_refl _) (by simp) rfl
          have Hf0 := Lib.hid hf0
          clear hf0 hmn
          go_upto_region 12 with (first
            | (at_builtin; (with_reducible (show wpList _ _ _ (⟨some 56, _, _, _, _, _⟩ :: _) _ _)); (refine wpList_appB (by rfl) (.tmp 52) (.tmp 55) 22 25 rfl wr.heap.size (.agg #[.int .i64 0, .string ByteArray.empty]) 2 24 Tryz.underlying22 infoSW rfl (by decide) _ 0 [] rfl Hf0.out ⟨b2, o2, none⟩ m0 c2 (swC (R.take m0)) rfl (by rw [swC_len, HT.out.1]) (HTc.out.ext (Ext.alloc _ _)) (swC_one _) (by omega) (by decide) (by simp) ?_; intro v8 w8 ho8 hg8 hb8; have he8 : Ext wr w8 := Ext.trans' (Ext.alloc _ _) (Below.of_grown hg8 Hf0.out (Nat.le_refl _) (by simp)); obtain ⟨q8, c8, rfl⟩ := own_slice ho8; rw [Nat.zero_add, List.nil_append] at ho8; have hb9 := Blk.new w8 (.cells #[.slice q8 m0 c8] 22); have Ho8 := Lib.hid ho8; have He8 := Lib.hid he8; clear ho8 hg8 hb8 he8))
            | (at_builtin; go_must (refine wpList_appB (by rfl) (.tmp 51) (.tmp 57) 26 22 rfl wo.heap.size (.slice none 0 0) 1 24 Tryz.underlying26 infoSWs rfl (by decide) _ acc.length vs rfl (own_ext (own_ext Ho3.out He8.out) (Ext.alloc _ _)) ⟨w8.heap.size, 0, none⟩ 1 1 [.slice q8 m0 c8] rfl rfl (cells_blk (Blk.new w8 _)) (by intro u hu; simp at hu; subst hu; rfl) (by omega) (by decide) (by have := He8.out.size; simp; omega) ?_; intro v9 w9 ho9 hg9 hb9)))
          obtain ⟨q9, c9, rfl⟩ := own_slice ho9
          have hown9 := own_ext (own_ext Ho3.out He8.out) (Ext.alloc w8 (.cells #[.slice q8 m0 c8] 22))
          have hsz9 : wo.heap.size ≤ (w8.alloc (.cells #[.slice q8 m0 c8] 22)).heap.size := by have := He8.out.size; simp; omega
          have HX9 := Lib.hid (Ext.trans' (He3.out.trans (He8.out.trans (Ext.alloc w8 _))) (Below.of_grown hg9 hown9 (Nat.le_refl _) hsz9))
          have HV9 : Hid (SwVs 25 w9 (vs ++ [.slice q8 m0 c8]) (acc ++ [R.take m0])) := Lib.hid (SwVs.same (SwVs.snoc (Hv3.out.ext (He8.out.trans (Ext.alloc w8 _))) (SwV.ext (own_swv Ho8.out HT.out.1) (Ext.alloc w8 _))) (grown_keeps hown9 hg9 (by decide)))
          have Ho9 := Lib.hid ho9
          have HAc : Hid ((acc ++ [R.take m0]) ++ refAll A (R.drop m0) = LL) := Lib.hid (by rw [← Hacc.out, HSt.out, List.append_assoc]; rfl)
          have hl1 : ((m0 : Nat) : Int) ≤ (c2 : Int) := by omega
          clear ho9 hg9 hb9 hown9
          go_wp2_with fail
          refine ⟨⟨R.drop m0, acc ++ [R.take m0], vs ++ [.slice q8 m0 c8], b2, if c2 = m0 then o2 else o2 + m0 * 2, c2 - m0, ?_, ?_, by rw [HT.out.2]; omega, by omega, by rw [HT.out.2]; omega, HAc.out, HX9.out, by rw [List.length_append]; exact Ho9.out, HV9.out⟩, by simp only [sliceLenS]; omega⟩
          · rw [HT.out.2]
            split <;> rfl
          · split
            · have : R.drop m0 = [] := List.eq_nil_of_length_eq_zero (by rw [HT.out.2]; omega)
              rw [this]; exact .inl rfl
            · exact HDc.out
        · have HEnd := Lib.hid (refAll_end hg)
          have hsplit : (64 < R.length + A.length ∧ ¬ 0 < R.length) ∨ ¬ 64 < R.length + A.length := by omega
          clear hg
          rcases hsplit with ⟨g3, g4⟩ | g3
          · have g1 : decide ((64 : Int) < ((R.length + A.length : Nat) : Int)) = true := decide_eq_true (by omega)
            have g2 : decide ((0 : Int) < (R.length : Int)) = false := decide_eq_false (by omega)
            go_upto_region 13 with (fail)
            clear g1
            by_cases h0 : 0 < R.length + A.length
            · have e1 : decide ((0 : Int) < ((R.length + A.length : Nat) : Int)) = true := decide_eq_true (by omega)
              have HL2 : Hid (acc ++ [A ++ R] = LL) := Lib.hid (by rw [← Hacc.out, HEnd.out, if_pos h0])
              have HSL : Hid ((A ++ R).length = A.length + R.length) := Lib.hid List.length_append
              go_upto_region 14 with (fail)
              have hf0 : (wr.alloc (.cells #[] 25)).ownsRow wr.heap.size 25 2 (.slice (some ⟨wr.heap.size, 0, none⟩) 0 0) 0 [] := World.ownsRow_made wr #[] 0 (Nat.le_refl _) (by simp) rfl
              have Hf0 := Lib.hid hf0
              clear hf0
              go_upto_region 15 with (first
                | (at_builtin; (with_reducible (show wpList _ _ _ (⟨some 71, _, _, _, _, _⟩ :: _) _ _)); (refine wpList_appB (by rfl) (.tmp 69) (.tmp 70) 22 25 rfl wr.heap.size (.agg #[.int .i64 0, .string ByteArray.empty]) 2 24 Tryz.underlying22 infoSW rfl (by decide) _ 0 [] rfl Hf0.out ⟨bh, 0, none⟩ A.length ch (swC A) rfl (swC_len A) (HAw.out.ext (Ext.alloc _ _)) (swC_one _) (by omega) (by decide) (by simp) ?_; intro v8 w8 ho8 hg8 hb8; have he8 : Ext wr w8 := Ext.trans' (Ext.alloc _ _) (Below.of_grown hg8 Hf0.out (Nat.le_refl _) (by simp)); obtain ⟨q8, c8, rfl⟩ := own_slice ho8; rw [Nat.zero_add, List.nil_append] at ho8; have Ho8 := Lib.hid ho8; have He8 := Lib.hid he8; clear ho8 hg8 hb8 he8))
                | (at_builtin; (with_reducible (show wpList _ _ _ (⟨some 73, _, _, _, _, _⟩ :: _) _ _)); (refine wpList_appB (by rfl) (.tmp 71) (.tmp 72) 22 25 rfl wr.heap.size (.agg #[.int .i64 0, .string ByteArray.empty]) 2 24 Tryz.underlying22 infoSW rfl (by decide) _ A.length _ rfl Ho8.out ⟨b2, o2, none⟩ R.length c2 (swC R) rfl (swC_len R) (Hcell.out.ext (He3.out.trans He8.out)) (swC_one _) (by omega) (by decide) He8.out.size ?_; intro v9 w9 ho9 hg9 hb9; have he9 : Ext wr w9 := Ext.trans' He8.out (Below.of_grown hg9 Ho8.out (Nat.le_refl _) He8.out.size); obtain ⟨q9, c9, rfl⟩ := own_slice ho9; rw [← swC_app] at ho9; have Ho9 := Lib.hid ho9; have He9 := Lib.hid he9; clear ho9 hg9 hb9 he9))
                | (at_builtin; go_must (refine wpList_appB (by rfl) (.tmp 68) (.tmp 74) 26 22 rfl wo.heap.size (.slice none 0 0) 1 24 Tryz.underlying26 infoSWs rfl (by decide) _ acc.length vs rfl (own_ext (own_ext Ho3.out He9.out) (Ext.alloc _ _)) ⟨w9.heap.size, 0, none⟩ 1 1 [.slice q9 (A.length + R.length) c9] rfl rfl (cells_blk (Blk.new w9 _)) (by intro u hu; simp at hu; subst hu; rfl) (by omega) (by decide) (by have := He9.out.size; simp; omega) ?_; intro v10 w10 ho10 hg10 hb10)))
              obtain ⟨q10, c10, rfl⟩ := own_slice ho10
              have hown10 := own_ext (own_ext Ho3.out He9.out) (Ext.alloc w9 (.cells #[.slice q9 (A.length + R.length) c9] 22))
              have hsz10 : wo.heap.size ≤ (w9.alloc (.cells #[.slice q9 (A.length + R.length) c9] 22)).heap.size := by have := He9.out.size; simp; omega
              have HX10 := Lib.hid (Hex.out.trans (Ext.trans' (He3.out.trans (He9.out.trans (Ext.alloc w9 _))) (Below.of_grown hg10 hown10 (Nat.le_refl _) hsz10)))
              have HV10 : Hid (SwVs 25 w10 (vs ++ [.slice q9 (A.length + R.length) c9]) (acc ++ [A ++ R])) := Lib.hid (SwVs.same (SwVs.snoc (Hv3.out.ext (He9.out.trans (Ext.alloc w9 _))) (SwV.ext (own_swv Ho9.out HSL.out) (Ext.alloc w9 _))) (grown_keeps hown10 hg10 (by decide)))
              have Ho10 := Lib.hid (own_le ho10 Hex.out.size)
              clear ho10 hg10 hb10 hown10
              go_wp2_with fail
              go_ret
              first
              | exact ⟨HX10.out, _, rfl, vs ++ [.slice q9 (A.length + R.length) c9], by rw [← HL2.out, List.length_append]; exact Ho10.out, by rw [← HL2.out]; exact HV10.out⟩
              | exact ⟨HX10.out, _, vs ++ [.slice q9 (A.length + R.length) c9], rfl, by rw [← HL2.out, List.length_append]; exact Ho10.out, by rw [← HL2.out]; exact HV10.out⟩
            · have e1 : decide ((0 : Int) < ((R.length + A.length : Nat) : Int)) = false := decide_eq_false (by omega)
              have HL2 : Hid (acc = LL) := Lib.hid (by rw [← Hacc.out, HEnd.out, if_neg h0]; simp)
              have HX10 := Lib.hid (Hex.out.trans He3.out)
              have Ho10 := Lib.hid (own_le Ho3.out Hex.out.size)
              have HV10 := Lib.hid Hv3.out
              clear Hacc HEnd HAw Hcell
              go_wp2_with fail
              all_goals
                go_ret
                first
                | exact ⟨HX10.out, _, rfl, vs, by rw [← HL2.out]; exact Ho10.out, by rw [← HL2.out]; exact HV10.out⟩
                | exact ⟨HX10.out, _, vs, rfl, by rw [← HL2.out]; exact Ho10.out, by rw [← HL2.out]; exact HV10.out⟩
          · have g1 : decide ((64 : Int) < ((R.length + A.length : Nat) : Int)) = false := decide_eq_false (by omega)
            go_upto_region 13 with (fail)
            clear g1
            by_cases h0 : 0 < R.length + A.length
            · have e1 : decide ((0 : Int) < ((R.length + A.length : Nat) : Int)) = true := decide_eq_true (by omega)
              have HL2 : Hid (acc ++ [A ++ R] = LL) := Lib.hid (by rw [← Hacc.out, HEnd.out, if_pos h0])
              have HSL : Hid ((A ++ R).length = A.length + R.length) := Lib.hid List.length_append
              go_upto_region 14 with (fail)
              have hf0 : (wr.alloc (.cells #[] 25)).ownsRow wr.heap.size 25 2 (.slice (some ⟨wr.heap.size, 0, none⟩) 0 0) 0 [] := World.ownsRow_made wr #[] 0 (Nat.le_refl _) (by simp) rfl
              have Hf0 := Lib.hid hf0
              clear hf0
              go_upto_region 15 with (first
                | (at_builtin; (with_reducible (show wpList _ _ _ (⟨some 71, _, _, _, _, _⟩ :: _) _ _)); (refine wpList_appB (by rfl) (.tmp 69) (.tmp 70) 22 25 rfl wr.heap.size (.agg #[.int .i64 0, .string ByteArray.empty]) 2 24 Tryz.underlying22 infoSW rfl (by decide) _ 0 [] rfl Hf0.out ⟨bh, 0, none⟩ A.length ch (swC A) rfl (swC_len A) (HAw.out.ext (Ext.alloc _ _)) (swC_one _) (by omega) (by decide) (by simp) ?_; intro v8 w8 ho8 hg8 hb8; have he8 : Ext wr w8 := Ext.trans' (Ext.alloc _ _) (Below.of_grown hg8 Hf0.out (Nat.le_refl _) (by simp)); obtain ⟨q8, c8, rfl⟩ := own_slice ho8; rw [Nat.zero_add, List.nil_append] at ho8; have Ho8 := Lib.hid ho8; have He8 := Lib.hid he8; clear ho8 hg8 hb8 he8))
                | (at_builtin; (with_reducible (show wpList _ _ _ (⟨some 73, _, _, _, _, _⟩ :: _) _ _)); (refine wpList_appB (by rfl) (.tmp 71) (.tmp 72) 22 25 rfl wr.heap.size (.agg #[.int .i64 0, .string ByteArray.empty]) 2 24 Tryz.underlying22 infoSW rfl (by decide) _ A.length _ rfl Ho8.out ⟨b2, o2, none⟩ R.length c2 (swC R) rfl (swC_len R) (Hcell.out.ext (He3.out.trans He8.out)) (swC_one _) (by omega) (by decide) He8.out.size ?_; intro v9 w9 ho9 hg9 hb9; have he9 : Ext wr w9 := Ext.trans' He8.out (Below.of_grown hg9 Ho8.out (Nat.le_refl _) He8.out.size); obtain ⟨q9, c9, rfl⟩ := own_slice ho9; rw [← swC_app] at ho9; have Ho9 := Lib.hid ho9; have He9 := Lib.hid he9; clear ho9 hg9 hb9 he9))
                | (at_builtin; go_must (refine wpList_appB (by rfl) (.tmp 68) (.tmp 74) 26 22 rfl wo.heap.size (.slice none 0 0) 1 24 Tryz.underlying26 infoSWs rfl (by decide) _ acc.length vs rfl (own_ext (own_ext Ho3.out He9.out) (Ext.alloc _ _)) ⟨w9.heap.size, 0, none⟩ 1 1 [.slice q9 (A.length + R.length) c9] rfl rfl (cells_blk (Blk.new w9 _)) (by intro u hu; simp at hu; subst hu; rfl) (by omega) (by decide) (by have := He9.out.size; simp; omega) ?_; intro v10 w10 ho10 hg10 hb10)))
              obtain ⟨q10, c10, rfl⟩ := own_slice ho10
              have hown10 := own_ext (own_ext Ho3.out He9.out) (Ext.alloc w9 (.cells #[.slice q9 (A.length + R.length) c9] 22))
              have hsz10 : wo.heap.size ≤ (w9.alloc (.cells #[.slice q9 (A.length + R.length) c9] 22)).heap.size := by have := He9.out.size; simp; omega
              have HX10 := Lib.hid (Hex.out.trans (Ext.trans' (He3.out.trans (He9.out.trans (Ext.alloc w9 _))) (Below.of_grown hg10 hown10 (Nat.le_refl _) hsz10)))
              have HV10 : Hid (SwVs 25 w10 (vs ++ [.slice q9 (A.length + R.length) c9]) (acc ++ [A ++ R])) := Lib.hid (SwVs.same (SwVs.snoc (Hv3.out.ext (He9.out.trans (Ext.alloc w9 _))) (SwV.ext (own_swv Ho9.out HSL.out) (Ext.alloc w9 _))) (grown_keeps hown10 hg10 (by decide)))
              have Ho10 := Lib.hid (own_le ho10 Hex.out.size)
              clear ho10 hg10 hb10 hown10
              go_wp2_with fail
              go_ret
              first
              | exact ⟨HX10.out, _, rfl, vs ++ [.slice q9 (A.length + R.length) c9], by rw [← HL2.out, List.length_append]; exact Ho10.out, by rw [← HL2.out]; exact HV10.out⟩
              | exact ⟨HX10.out, _, vs ++ [.slice q9 (A.length + R.length) c9], rfl, by rw [← HL2.out, List.length_append]; exact Ho10.out, by rw [← HL2.out]; exact HV10.out⟩
            · have e1 : decide ((0 : Int) < ((R.length + A.length : Nat) : Int)) = false := decide_eq_false (by omega)
              have HL2 : Hid (acc = LL) := Lib.hid (by rw [← Hacc.out, HEnd.out, if_neg h0]; simp)
              have HX10 := Lib.hid (Hex.out.trans He3.out)
              have Ho10 := Lib.hid (own_le Ho3.out Hex.out.size)
              have HV10 := Lib.hid Hv3.out
              clear Hacc HEnd HAw Hcell
              go_wp2_with fail
              all_goals
                go_ret
                first
                | exact ⟨HX10.out, _, rfl, vs, by rw [← HL2.out]; exact Ho10.out, by rw [← HL2.out]; exact HV10.out⟩
                | exact ⟨HX10.out, _, vs, rfl, by rw [← HL2.out]; exact Ho10.out, by rw [← HL2.out]; exact HV10.out⟩
end Go.Proofs.YtmnpappbacndlaaGreatDoor
