/- A list of areas that grows: its tree, and the pages in memory. No program in sight. -/
import Derived.Test.YtolmoknjmdmpgaaGreatEA
import Derived.Test.YtolmoknjmdmpgaaGreatFK
import Derived.Test.YtolmoknjmdmpgaaGreatFH
set_option linter.unusedSimpArgs false
set_option linter.unusedVariables false
namespace Dsd
open Go.Proofs.YtolmoknjmdmpgaaGreat (encNE encNS)
theorem growP_at (M : List (List UInt8)) (p : Int) {k : Nat} (hk : k < M.length) : (growP M p).getD k [] = M.getD k [] := by
  unfold growP
  split
  · simp [List.getD, List.getElem?_append_left hk]
  · rfl
theorem putP_self {M : List (List UInt8)} {x : Wr} (h0 : 0 ≤ x.1) (h1 : x.1 < 10000) : pageOf (putP M x) x.1 = (x.2, 0) := by
  have hl : x.1 < ((growP M x.1).length : Int) := by unfold growP; rw [if_pos h1]; simp; omega
  have e : putP M x = (growP M x.1).set x.1.toNat x.2 := by unfold putP; rw [if_pos ⟨h0, hl⟩]
  unfold pageOf
  rw [e, List.length_set, if_pos ⟨h0, hl⟩, getD_set _ _ _ _ _ (by omega), if_pos rfl]
theorem putP_other {M : List (List UInt8)} {x : Wr} {q : Int} (hq : q < (M.length : Int)) (hne : x.1 ≠ q) : pageOf (putP M x) q = pageOf M q := by
  have g := growP_ge M x.1
  have l := putP_len M x
  have e : 0 ≤ q → (putP M x).getD q.toNat [] = M.getD q.toNat [] := fun h0 => by
    unfold putP
    split
    · rename_i h; rw [getD_set _ _ _ _ _ (by omega), if_neg (by omega), growP_at _ _ (by omega)]
    · exact growP_at _ _ (by omega)
  unfold pageOf
  by_cases h0 : 0 ≤ q
  · rw [if_pos ⟨h0, by omega⟩, if_pos ⟨h0, by omega⟩, e h0]
  · rw [if_neg (by omega), if_neg (by omega)]
theorem puts_other {q : Int} : ∀ (W : List Wr) (M : List (List UInt8)), q < (M.length : Int) → (∀ x ∈ W, x.1 ≠ q) → pageOf (putsP M W) q = pageOf M q
  | [], M, _, _ => rfl
  | x :: W, M, hq, hn => by
    have l := putP_len M x
    have := puts_other W (putP M x) (by omega) (fun y hy => hn y (List.mem_cons_of_mem _ hy))
    rw [show putsP M (x :: W) = putsP (putP M x) W from rfl, this, putP_other hq (hn x (List.mem_cons_self ..))]
theorem putP_reach {M : List (List UInt8)} {x : Wr} (h0 : 0 ≤ x.1) (h1 : x.1 < 10000) : x.1 < ((putP M x).length : Int) := by
  have := putP_self (M := M) h0 h1
  unfold pageOf at this
  split at this
  · rename_i h; exact h.2
  · simp at this
theorem puts_self : ∀ (W : List Wr) (M : List (List UInt8)), (W.map (·.1)).Nodup → (∀ x ∈ W, 0 ≤ x.1 ∧ x.1 < 10000) → ∀ x ∈ W, pageOf (putsP M W) x.1 = (x.2, 0)
  | [], _, _, _, x, hx => by cases hx
  | y :: W, M, hn, hb, x, hx => by
    rw [List.map_cons, List.nodup_cons] at hn
    rw [show putsP M (y :: W) = putsP (putP M y) W from rfl]
    rcases List.mem_cons.1 hx with rfl | hx
    · obtain ⟨b1, b2⟩ := hb x (List.mem_cons_self ..)
      rw [puts_other W (putP M x) (putP_reach b1 b2) (fun z hz e => hn.1 (by rw [← e]; exact List.mem_map_of_mem hz)), putP_self b1 b2]
    · exact puts_self W (putP M y) hn.2 (fun z hz => hb z (List.mem_cons_of_mem _ hz)) x hx
theorem puts_lenK {K : Int} : ∀ (W : List Wr) (M : List (List UInt8)), (∀ x ∈ W, x.1 < K) → (M.length : Int) ≤ K → ((putsP M W).length : Int) ≤ K
  | [], M, _, h => h
  | x :: W, M, hb, h => by
    have hx := hb x (List.mem_cons_self ..)
    have l1 : ((growP M x.1).length : Int) ≤ K := by
      unfold growP
      split
      · simp; omega
      · exact h
    have l2 : ((putP M x).length : Int) ≤ K := by
      unfold putP
      split
      · rw [List.length_set]; exact l1
      · exact l1
    exact puts_lenK W (putP M x) (fun z hz => hb z (List.mem_cons_of_mem _ hz)) l2
theorem puts_mem2 (P : List UInt8 → Prop) (h0 : P []) : ∀ (l : List Wr), (∀ x ∈ l, P x.2) → ∀ (m : List (List UInt8)), (∀ s ∈ m, P s) → ∀ s ∈ putsP m l, P s
  | [], _, m, hm => hm
  | x :: l, hx, m, hm => puts_mem2 P h0 l (fun y hy => hx y (List.mem_cons_of_mem _ hy)) (putP m x) (putP_mem m x P hm h0 (hx x (List.mem_cons_self ..)))
end Dsd
/- All pages of a growing tree hold nodes of at least two entries. No program in sight. -/
namespace Dsd
open Go.Proofs.YtolmoknjmdmpgaaGreat (encNE encNS)
theorem few_fit {size : Int} {n : Nd} (h1 : isSizeB size = true) (h2 : nodeB n = true) (h3 : nodeFits size n = false) : 4 ≤ n.ents.length := by
  rw [fits_iff h1 h2, decide_eq_false_iff_not] at h3
  have hv : NSpec n := node_iff.1 h2
  have hsize : size = 128 ∨ size = 256 ∨ size = 512 := by unfold isSizeB at h1; simp at h1; omega
  have := entsN_le n.ents [] 32 (fun x hx => by
    obtain ⟨i, hi, rfl⟩ := List.mem_iff_getElem.1 hx
    have := (ents_at hv hi).2
    have e : entAt n.ents i = n.ents[i] := by simp [entAt, List.getD, hi]
    rwa [e] at this)
  omega
end Dsd
/- The walk of the law's 'leads': a key is led as a sorted list says. -/
namespace Dsd
/-- What the law makes of its list: the area, its bound, the next bound. -/
def ldS (key : List UInt8) (s : Int × List UInt8 × List UInt8) (x : Itm) : Int × List UInt8 × List UInt8 :=
  if bl key x.1 = false then (x.2, x.1, s.2.2) else if s.2.2 = [] then (s.1, s.2.1, x.1) else s
theorem ld_low {key : List UInt8} : ∀ (L : List Itm) (s : Int × List UInt8 × List UInt8), (∀ x ∈ L, bl key x.1 = false) → s.2.2 = [] → (L.foldl (ldS key) s).2.2 = []
  | [], s, _, h => h
  | x :: L, s, h, h0 => by
    rw [List.foldl_cons]
    refine ld_low L _ (fun y hy => h y (List.mem_cons_of_mem _ hy)) ?_
    unfold ldS
    rw [if_pos (h x (List.mem_cons_self ..))]
    exact h0
theorem ld_high {key : List UInt8} : ∀ (L : List Itm) (s : Int × List UInt8 × List UInt8), (∀ x ∈ L, bl key x.1 = true) → s.2.2 ≠ [] → L.foldl (ldS key) s = s
  | [], s, _, _ => rfl
  | x :: L, s, h, h0 => by
    have e : ldS key s x = s := by
      unfold ldS
      rw [if_neg (by rw [h x (List.mem_cons_self ..)]; simp), if_neg h0]
    rw [List.foldl_cons, e]
    exact ld_high L s (fun y hy => h y (List.mem_cons_of_mem _ hy)) h0
theorem ld_all {key : List UInt8} {pre post : List Itm} {low : List UInt8} {base : Int} (hs : Srt (pre ++ (low, base) :: post)) (h1 : bl key low = false) (h2 : post ≠ [] → bl key (lowOf post) = true) :
    (pre ++ (low, base) :: post).foldl (ldS key) (0, [], []) = (base, low, lowOf post) := by
  have hp : (pre.foldl (ldS key) (0, [], [])).2.2 = [] := ld_low pre _ (fun x hx => by
    have := srt_mem hs hx (y := (low, base)) (List.mem_cons_self ..)
    cases hk : bl key x.1 with
    | false => rfl
    | true => rw [bl_trans hk this] at h1; cases h1) rfl
  rw [List.foldl_append, List.foldl_cons]
  generalize pre.foldl (ldS key) (0, [], []) = s at hp
  have e : ldS key s (low, base) = (base, low, []) := by unfold ldS; rw [if_pos h1, hp]
  rw [e]
  cases post with
  | nil => rfl
  | cons y ys =>
    have hy := h2 (by simp)
    rw [lowOf_cons] at hy ⊢
    have hy0 : y.1 ≠ [] := fun e2 => by rw [e2, bl_nil] at hy; cases hy
    have e3 : ldS key (base, low, []) y = (base, low, y.1) := by
      unfold ldS
      rw [if_neg (by rw [hy]; simp), if_pos rfl]
    rw [List.foldl_cons, e3]
    refine ld_high ys _ (fun x hx => ?_) hy0
    have h3 := (List.pairwise_cons.1 (List.pairwise_cons.1 (List.pairwise_append.1 hs).2.1).2).1 x hx
    exact bl_trans hy h3
theorem ld_step {key : List UInt8} {L : List Itm} {k : Nat} (hk : k < L.length) (s : Int × List UInt8 × List UInt8) : (L.take (k + 1)).foldl (ldS key) s = ldS key ((L.take k).foldl (ldS key) s) (entAt L k) := by
  rw [List.take_succ_eq_append_getElem hk, List.foldl_append]
  have e : entAt L k = L[k] := by simp [entAt, List.getD, hk]
  rw [e]; rfl
end Dsd
namespace Go.Proofs.YtolmoknjmdmpgaaGreat
open Go.RowKit Dsd
theorem itSize : (Tryz.prog.info? 50).map (·.size) = some 2 := by kernel_rfl
set_option maxRecDepth 100000 in
set_option maxHeartbeats 4000000 in
theorem leads_any (p : Option Addr) (cap n : Nat) (m : List (List UInt8)) (h : Hd) (d : DS) (items : List Itm) (pgs : List Int) (mn : Nat) (key : List UInt8) (qi : Option Addr) (ci : Nat) (w : World) (hs : Strs w p m) (hn : m.length = n) (hm : Small m) (hit : Nents w qi items) (hil : items.length ≤ 1000000) (hz : door22 h d = 0)
    (hsub : Sub m d mn h.height.toNat h.root items pgs) (hsrt : Srt items) (hl0 : lowOf items = []) :
    Calls Tryz.prog 23 #[.slice p n cap, .agg #[.int .i64 h.applied, .int .i64 h.count, .int .i64 h.fin, .int .i64 h.root, .int .i64 h.height, .int .i64 h.splits, .int .i64 h.areas], .agg #[.int .i64 d.id, .int .i64 d.org, .int .i64 d.format, .int .i64 d.length, .int .i64 d.block, .int .i64 d.keyAt, .int .i64 d.keyLength, .int .i64 d.interval, .int .i64 d.area, .int .i64 d.freeInterval, .int .i64 d.freeArea, .int .i64 d.base, .int .i64 d.altAt, .int .i64 d.altLength, .bool d.unique, .int .i64 d.cls, .string ⟨d.volume.toArray⟩, .string ⟨d.owner.toArray⟩, .int .i64 d.created, .int .i64 d.expires, .bool d.archived], .slice qi items.length ci, .string ⟨key.toArray⟩] w fun e w' => e = .returned (.bool true) ∧ Ext w w' := by
  have hdd := hd_ds w h d
  obtain ⟨k1, k2, k3, k4, k5, k6, k7⟩ := door22_zero hz
  obtain ⟨her, pre, post, low, base, hi, hpg, hlo, hhi, hb1, hb2⟩ := led_end (key := key) k4 hsrt hsub hl0
  have hfold : items.foldl (ldS key) (0, [], []) = (base, low, lowOf post) := by
    rw [hi] at hsrt ⊢
    exact ld_all hsrt hb1 hb2
  have hlE : locE m h d key = 0 := by unfold locE; rw [if_neg (by rw [hz]; simp)]; exact her
  have hlL : locL m h d key = pathTo m h d key h.height.toNat := by unfold locL; rw [if_pos hlE]
  have hlD : lowD m h d key = low := by unfold lowD; rw [if_pos hlE]; exact hlo
  have hhD : highD m h d key = lowOf post := by unfold highD; rw [if_pos hlE]; exact hhi
  have hlen : (locL m h d key).length = h.height.toNat + 1 := by rw [hlL, pathTo_len]
  have hlast : (locL m h d key).getD h.height.toNat 0 = base := by rw [hlL, pathTo_at _ _ _ _ _ (Nat.le_refl _)]; exact hpg
  have HL1 := Lib.hid (fun W (hh : Strs W p m) => Locate22_any p cap n m h d key W hh hn hm)
  have HB1 := Lib.hid (fun W (hh : Strs W p m) => Bounds22_any p cap n m h d key W hh hn hm)
  unfold LocOut at HL1
  unfold BndOut at HB1
  rw [hlE] at HL1 HB1
  rw [hlD, hhD] at HB1
  have Hs := Lib.hid hs
  have Hit := Lib.hid hit
  have HF := Lib.hid hfold
  obtain ⟨H, hH⟩ : ∃ H : Nat, h.height.toNat = H := ⟨_, rfl⟩
  rw [hH] at hlen hlast
  have hH6 : H ≤ 6 := by omega
  clear hs hit hsub hsrt hl0 hz k1 k2 k3 k4 k5 k6 k7 her hi hpg hlo hhi hb1 hb2 hfold hlE hlL hlD hhD hH hm hn
  generalize lowOf post = high at *
  generalize locL m h d key = LL at *
  have hlen1 : LL.length ≤ 7 := by omega
  obtain ⟨n1, hn1⟩ : ∃ n1, n1 = LL.length := ⟨_, rfl⟩
  rw [← hn1] at HL1 hlen
  have hw1 : IntKind.i64.wrap (((n1 : Nat) : Int) - 1) = ((H : Nat) : Int) := by rw [IntWalk.i64_in _ (by omega)]; omega
  have hgt : (0 : Int) < ((n1 : Nat) : Int) := by omega
  have hgtN : 0 < n1 := by omega
  have hHI : ((H : Nat) : Int) < ((n1 : Nat) : Int) := by omega
  have hHN : H < n1 := by omega
  have Hn1 := Lib.hid (And.intro hn1 (And.intro hlen hlast))
  clear hn1 hlen hlast hlen1
  go_enter Tryz.func23, Tryz.ntmps23
  go_upto_region 1 with (fail)
  refine wp_name (fun w0 => Ext w w0 ∧ HdAt w0 w.heap.size h ∧ DsAt w0 (w.heap.size + 1) d) hdd ?_
  clear hdd
  rintro w0 ⟨he0, hb1, hb2⟩
  have HX0 := Lib.hid (And.intro he0 (And.intro hb1 hb2))
  clear he0 hb1 hb2
  go_upto_region 3 with (fail)
  go_loopw [23, 11, 12, 13] (fun i wa lo hi wr => ∃ k : Nat, k ≤ items.length ∧ i = .int .i64 k ∧ wa = .int .i64 ((items.take k).foldl (ldS key) (0, [], [])).1 ∧ lo = .string ⟨((items.take k).foldl (ldS key) (0, [], [])).2.1.toArray⟩ ∧ hi = .string ⟨((items.take k).foldl (ldS key) (0, [], [])).2.2.toArray⟩ ∧ Ext w0 wr) (fun i _ _ _ _ => items.length - (intOf i).toNat)
  case atStart => exact ⟨0, Nat.zero_le _, rfl, rfl, rfl, rfl, Ext.refl _⟩
  case round =>
    obtain ⟨k, hk, rfl, rfl, rfl, rfl, hext⟩ := hrel
    by_cases hlt : k < items.length
    · have hltI : (k : Int) < items.length := by omega
      obtain ⟨g, off, rfl, hgl, hcc⟩ := ((Hit.out.ext HX0.out.1).ext hext).at k hlt
      obtain ⟨hc0, hc1⟩ := hcc k hlt
      have HSt := Lib.hid (ld_step (key := key) hlt (0, [], []))
      have Hex := Lib.hid hext
      clear hcc
      generalize (items.take k).foldl (ldS key) (0, [], []) = s at *
      generalize entAt items k = x at *
      obtain ⟨sb, pg⟩ := x
      obtain ⟨s1, s2, s3⟩ := s
      simp only at hc0 hc1 HSt
      go_upto_region 5 with (refine wpList_put rfl 50 (.tmp 15) (.tmp 26) rfl _ #[.string ⟨sb.toArray⟩, .int .i64 pg] rfl rfl _ _ (Blk.new wr _) itSize rfl (by simp [Value.oneCell']) ?_; intro w4 hn4 hc4)
      have hx4 := hc4.ext (Ext.alloc wr _) (Nat.le_refl _)
      have ca : w4.cell? ⟨wr.heap.size, 0, none⟩ = some (.string ⟨sb.toArray⟩) := Blk.val hn4 0 _ rfl
      have cb : w4.cell? ⟨wr.heap.size, 1, none⟩ = some (.int .i64 pg) := Blk.val hn4 1 _ rfl
      have lx := Blk.lt hn4
      have Hx4 := Lib.hid (Hex.out.trans hx4)
      clear hc4 hx4 hn4 hext hc0 hc1 hgl
      cases hb : bl key sb
      · have hle : (Go.Op.bytesLess sb key || sb == key) = true := by rw [ble_iff, hb]; rfl
        have hS : ldS key (s1, s2, s3) (sb, pg) = (pg, sb, s3) := by unfold ldS; rw [if_pos hb]
        rw [hS] at HSt
        clear hS
        go_upto_region 6 with fail
        go_quiet (fail)
        go_wp2_with fail
        refine ⟨⟨k + 1, by omega, by go_num, by rw [HSt.out], by rw [HSt.out], by rw [HSt.out], Hx4.out.trans (by first | exact Ext.drewN _ _ | exact Ext.drew _ | exact Ext.refl _)⟩, ?_⟩
        simp [intOf]; omega
      · have hle : (Go.Op.bytesLess sb key || sb == key) = false := by rw [ble_iff, hb]; rfl
        by_cases h3 : s3 = []
        · have hS : ldS key (s1, s2, s3) (sb, pg) = (s1, s2, sb) := by unfold ldS; rw [if_neg (by rw [hb]; simp), if_pos h3]
          rw [hS] at HSt
          subst h3
          clear hS
          go_wp2_with fail
          refine ⟨⟨k + 1, by omega, by go_num, by rw [HSt.out], by rw [HSt.out], by rw [HSt.out], Hx4.out⟩, ?_⟩
          simp [intOf]; omega
        · have hs3 : (s3 == ([] : List UInt8)) = false := by simpa using h3
          have hS : ldS key (s1, s2, s3) (sb, pg) = (s1, s2, s3) := by unfold ldS; rw [if_neg (by rw [hb]; simp), if_neg h3]
          rw [hS] at HSt
          clear hS
          go_wp2_with fail
          refine ⟨⟨k + 1, by omega, by go_num, by rw [HSt.out], by rw [HSt.out], by rw [HSt.out], Hx4.out⟩, ?_⟩
          simp [intOf]; omega
    · have e : k = items.length := by omega
      subst e
      rw [List.take_length, HF.out]
      simp only
      have hX := HX0.out.1.trans hext
      have hh1 := HX0.out.2.1.ext hext
      have hd1 := HX0.out.2.2.ext hext
      clear HF hext
      go_upto_region 11 with (first
        | ((with_reducible (show wpList _ _ _ (⟨some 43, _, _, _, _, _⟩ :: _) _ _)); refine wpList_hd (o := ⟨some 43, _, _, _, _, _⟩) rfl (.tmp 6) rfl _ rfl h hh1 ?_)
        | ((with_reducible (show wpList _ _ _ (⟨some 44, _, _, _, _, _⟩ :: _) _ _)); refine wpList_ds (o := ⟨some 44, _, _, _, _, _⟩) rfl (.tmp 7) rfl _ rfl d hd1 ?_)
        | (go_at_call 9; refine (HL1.out _ (Hs.out.ext hX)).mono ?_; rintro e w2 ⟨he2, q2, c2, rfl, ho2⟩))
      have hX2 := hX.trans he2
      have hh2 := hh1.ext he2
      have hd2 := hd1.ext he2
      have HQ2 := Lib.hid (path_ints ho2)
      clear hX he2 hh1 hd1 ho2
      go_upto_region 12 with (first
        | ((with_reducible (show wpList _ _ _ (⟨some 52, _, _, _, _, _⟩ :: _) _ _)); refine wpList_hd (o := ⟨some 52, _, _, _, _, _⟩) rfl (.tmp 6) rfl _ rfl h hh2 ?_)
        | ((with_reducible (show wpList _ _ _ (⟨some 53, _, _, _, _, _⟩ :: _) _ _)); refine wpList_ds (o := ⟨some 53, _, _, _, _, _⟩) rfl (.tmp 7) rfl _ rfl d hd2 ?_)
        | (go_at_call 11; refine (HB1.out _ (Hs.out.ext hX2)).mono ?_; rintro e w3 ⟨he3, rfl⟩))
      have HX3 := Lib.hid (hX2.trans he3)
      have hi3 := HQ2.out.ext he3
      obtain ⟨ib, io, rfl, hil3, hic⟩ := hi3.at H (by have := Hn1.out.1; omega)
      have hcH := hic H (by have := Hn1.out.1; omega)
      rw [Hn1.out.2.2] at hcH
      have e1 : (base == base) = true := by simp
      have e2 : (low == low) = true := by simp
      have e3 : (high == high) = true := by simp
      clear hic hi3 hX2 he3 hh2 hd2 HL1 HB1 HQ2
      go_wp2_with fail
      go_ret
      exact ⟨rfl, HX3.out⟩
end Go.Proofs.YtolmoknjmdmpgaaGreat
