/- The walks of slices.IndexFunc with steps' closure: the first entry with a page. -/
import Derived.Test.YtolmoknjmdmpgaaAF
import Derived.BigQuiet
import Derived.Test.YtolmoknjmdmpgaaFF
import Derived.Test.YtolmoknjmdmpgaaDF
set_option linter.unusedSimpArgs false
set_option linter.unusedVariables false
namespace Dsd
/-- The first entry with a page. -/
def idxP (pg : Int) : List Ent → Option Nat
  | [] => none
  | x :: L => if x.2 = pg then some 0 else (idxP pg L).map (· + 1)
theorem idxP_at {pg : Int} {L : List Ent} {k : Nat} (hk : k < L.length) : idxP pg (L.drop k) = if (entAt L k).2 = pg then some 0 else (idxP pg (L.drop (k + 1))).map (· + 1) := by
  have e : L.drop k = entAt L k :: L.drop (k + 1) := by
    rw [List.drop_eq_getElem_cons hk]
    simp [entAt, List.getD, hk]
  rw [e, idxP]
end Dsd
namespace Go.Proofs.Ytolmoknjmdmpgaa
open Go.RowKit Dsd
set_option maxRecDepth 100000 in
theorem Steps1_any (pb kb : Nat) (qp : Option Addr) (np cp k : Nat) (P : List Int) (s : List UInt8) (x : Int) (w : World) (hp : Blk w pb (.cells #[.slice qp np cp] 40)) (hk : Blk w kb (.cells #[.int .i64 k] 3)) (hi : Ints w qp P) (hn : P.length = np) (hlt : k + 1 < np) (hnp : np ≤ 1000) :
    Calls Try.prog 30 #[.agg #[.string ⟨s.toArray⟩, .int .i64 x], .pointer (some ⟨pb, 0, none⟩), .pointer (some ⟨kb, 0, none⟩)] w fun e w' => e = .returned (.bool (x == P.getD (k + 1) 0)) ∧ Ext w w' := by
  have hx := Ext.alloc w (.cells #[.string ⟨s.toArray⟩, .int .i64 x] 73)
  have he := Blk.new w (.cells #[.string ⟨s.toArray⟩, .int .i64 x] 73)
  have hp1 := hx.blk _ _ hp
  have hk1 := hx.blk _ _ hk
  obtain ⟨g, off, rfl, hg, hc⟩ := (Ints.ext hi hx).at (k + 1) (by omega)
  have c4 := hc (k + 1) (by omega)
  have c1 := Blk.val he 1 _ rfl
  have c2 := Blk.val hp1 0 _ rfl
  have c3 := Blk.val hk1 0 _ rfl
  have l1 := Blk.lt he
  have l2 := Blk.lt hp1
  have l3 := Blk.lt hk1
  have hw : IntKind.i64.wrap ((k : Int) + 1) = ((k + 1 : Nat) : Int) := by rw [IntWalk.i64_in _ (by omega)]; omega
  have hw2 : wrap64 ((k : Int) + 1) = ((k + 1 : Nat) : Int) := by rw [IntWalk.wrap64_in _ (by omega)]; omega
  have hI : ((k + 1 : Nat) : Int) < np := by omega
  have hI2 : (k : Int) + 1 < np := by omega
  have Hx := Lib.hid hx
  generalize P.getD (k + 1) 0 = y at *
  clear hc hp hk hi hn he hp1 hk1 hx
  go_enter Try.func30, Try.ntmps30
  go_upto_region 1 with (fail)
  generalize w.alloc (.cells #[.string ⟨s.toArray⟩, .int .i64 x] 73) = w1 at *
  go_quiet (fail)
  go_wp2
  go_ret
  refine ⟨rfl, ?_⟩
  first
    | exact Hx.out.trans (Ext.drewN _ _)
    | exact Hx.out.trans (Ext.drew _)
    | exact Hx.out
set_option maxRecDepth 100000 in
set_option maxHeartbeats 1000000 in
theorem IndexP_any (p : Option Addr) (cap : Nat) (L : List Ent) (pb kb : Nat) (qp : Option Addr) (np cp k0 : Nat) (P : List Int) (w : World) (hs : Nents w p L) (hm : L.length ≤ 1000000) (hp : Blk w pb (.cells #[.slice qp np cp] 40)) (hk : Blk w kb (.cells #[.int .i64 k0] 3)) (hi : Ints w qp P) (hn : P.length = np) (hlt : k0 + 1 < np) (hnp : np ≤ 1000) :
    Calls Try.prog 29 #[.slice p L.length cap, .func (.func 30) #[] #[.pointer (some ⟨pb, 0, none⟩), .pointer (some ⟨kb, 0, none⟩)]] w fun e w' => e = .returned (.int .i64 (idxI (idxP (P.getD (k0 + 1) 0) L))) ∧ Ext w w' := by
  have Hs := Lib.hid hs
  have HSt := Lib.hid (fun s x W (e : Ext w W) => Steps1_any pb kb qp np cp k0 P s x W (e.blk _ _ hp) (e.blk _ _ hk) (Ints.ext hi e) hn hlt hnp)
  clear hs hp hk hi hn hlt hnp
  generalize P.getD (k0 + 1) 0 = key at *
  go_enter Try.func29, Try.ntmps29
  go_wp2_with fail
  obtain ⟨wo, rfl⟩ : ∃ wo : World, wo = w := ⟨_, rfl⟩
  go_loopw [8] (fun i wr => ∃ k : Nat, k ≤ L.length ∧ i = .int .i64 k ∧ idxP key L = (idxP key (L.drop k)).map (· + k) ∧ Ext wo wr) (fun i _ => L.length - (intOf i).toNat)
  case atStart => exact ⟨0, Nat.zero_le _, rfl, by simp, Ext.refl _⟩
  case round =>
    obtain ⟨k, hk, rfl, hq, hext⟩ := hrel
    have Hq := Lib.hid hq
    clear hq
    by_cases hlt : k < L.length
    · have hltI : (k : Int) < L.length := by omega
      obtain ⟨b, off, rfl, hb, hc⟩ := (Hs.out.ext hext).at k hlt
      obtain ⟨hck, hck1⟩ := hc k hlt
      have HA := Lib.hid (idxP_at (pg := key) hlt)
      clear hc
      generalize entAt L k = x at *
      obtain ⟨sb, pg⟩ := x
      simp only at hck hck1 HA
      have Hpl := Lib.hid (HSt.out sb pg wr hext)
      cases hbd : (pg == key)
      · have HBD : Hid (idxP key L = (idxP key (L.drop (k + 1))).map (· + (k + 1))) := Lib.hid (by
          rw [Hq.out, HA.out, if_neg (by simpa using hbd), Option.map_map]
          congr 1
          funext y
          simp; omega)
        rw [hbd] at Hpl
        clear hbd HA
        go_wp2_with (go_at_call 30; refine Hpl.out.mono ?_; rintro e w1 ⟨rfl, he1⟩)
        go_roundw
        case rel => exact ⟨k + 1, by omega, by go_num, HBD.out, hext.trans he1⟩
        case measure => simp [intOf]; omega
      · have HBD : Hid (idxP key L = some k) := Lib.hid (by
          rw [Hq.out, HA.out, if_pos (by simpa using hbd)]; simp)
        rw [hbd] at Hpl
        clear hbd HA
        go_wp2_with (go_at_call 30; refine Hpl.out.mono ?_; rintro e w1 ⟨rfl, he1⟩)
        go_ret
        exact ⟨by rw [HBD.out]; rfl, hext.trans he1⟩
    · have hltI : decide ((k : Int) < L.length) = false := by simp; omega
      go_wp2
      go_ret
      have := Hq.out
      rw [List.drop_of_length_le (by omega)] at this
      exact ⟨by rw [this]; rfl, hext⟩
end Go.Proofs.Ytolmoknjmdmpgaa
/- The walk of package index's steps, on a key's path. -/
namespace Dsd
/-- A step with its entries' row. -/
abbrev StpX := Stp × Option Go.Addr × Nat
def stC (L : List StpX) : List Go.Value := L.flatMap fun x => [.int .i64 x.1.1, .int .i64 (x.1.2.1 : Nat), .int .i64 x.1.2.2.level, .int .i64 x.1.2.2.next, .slice x.2.1 x.1.2.2.ents.length x.2.2]
theorem stC_snoc (L : List StpX) (x : StpX) : stC (L ++ [x]) = stC L ++ [.int .i64 x.1.1, .int .i64 (x.1.2.1 : Nat), .int .i64 x.1.2.2.level, .int .i64 x.1.2.2.next, .slice x.2.1 x.1.2.2.ents.length x.2.2] := by
  unfold stC; rw [List.flatMap_append]; rfl
end Dsd
namespace Go.Proofs.Ytolmoknjmdmpgaa
open Go.RowKit Dsd
theorem stSize : (Try.prog.info? 82).map (·.size) = some 5 := by kernel_rfl
theorem stDesc : Try.prog.underlying 82 = some (.struct (Try.prog.fieldsOf 82)) := by kernel_rfl
theorem infoStep : (Try.prog.info? 82).map (fun i => (i.zero, i.size, i.bytes)) = some (some (.agg #[.int .i64 0, .int .i64 0, .int .i64 0, .int .i64 0, .slice none 0 0]), 5, 56) := by kernel_rfl
theorem stBuilt (a b c d : Int) (q : Option Addr) (n k : Nat) : Try.prog.built 82 [(0, .int .i64 a), (1, .int .i64 b), (2, .agg #[.int .i64 c, .int .i64 d, .slice q n k])] = some #[.int .i64 a, .int .i64 b, .int .i64 c, .int .i64 d, .slice q n k] := by kernel_rfl
/-- The rows of the entries stand. -/
def StRows (w : World) (L : List StpX) : Prop := ∀ x ∈ L, w.ownsRow 0 73 2 (.slice x.2.1 x.1.2.2.ents.length x.2.2) x.1.2.2.ents.length (entCells x.1.2.2.ents)
theorem StRows.ext {w w' : World} {L : List StpX} (h : StRows w L) (e : Ext w w') : StRows w' L := fun x hx => own_ext (h x hx) e
/-- What steps hands back. -/
def StpsOut (R : List Stp) (w : World) (e : Ending) (w' : World) : Prop := Ext w w' ∧ ∃ (L : List StpX) (q : Option Addr) (c : Nat), L.map (·.1) = R ∧ e = .returned (.tuple #[.slice q L.length c, .int .i64 0]) ∧ w'.ownsRow w.heap.size 82 5 (.slice q L.length c) L.length (stC L) ∧ StRows w' L
set_option maxRecDepth 100000 in
set_option maxHeartbeats 4000000 in
theorem steps_any (p : Option Addr) (cap n : Nat) (m : List (List UInt8)) (h : Hd) (d : DS) (key : List UInt8) (qp : Option Addr) (cp H : Nat) (w : World) (hs : Strs w p m) (hn : m.length = n) (hm : Small m) (hH : h.height = H) (hH6 : H ≤ 6) (her : erTo m h d key H = 0)
    (hidx : ∀ j, j < H → idxP (pgAt m h d key (j + 1)) (ndAt m h d key j).ents = some (findNd (ndAt m h d key j).ents key)) (hp : Ints w qp (pathTo m h d key H)) :
    Calls Try.prog 18 #[.agg (trC (.slice p n cap) h d), .slice qp (H + 1) cp] w (StpsOut ((List.range H).map (stpAt m h d key)) w) := by
  have hb := Blk.alloc (Blk.new w (.cells (trC (.slice p n cap) h d) 55)) (.cells #[.slice qp (H + 1) cp] 40)
  have hb2 : Blk ((w.alloc (.cells (trC (.slice p n cap) h d) 55)).alloc (.cells #[.slice qp (H + 1) cp] 40)) (w.heap.size + 1) (.cells #[.slice qp (H + 1) cp] 40) := Blk.new1 _ _ _ (by simp)
  have hx := (Ext.alloc w (.cells (trC (.slice p n cap) h d) 55)).trans (Ext.alloc _ (.cells #[.slice qp (H + 1) cp] 40))
  have HH := Lib.hid hH
  have Her := Lib.hid her
  have Hidx := Lib.hid hidx
  have Hp := Lib.hid hp
  have Hs := Lib.hid hs
  have HL := Lib.hid (fun page level W (hh : Strs W p m) => load22_any p cap n m h d page level W hh hn hm)
  have HOut : Hid (∀ e w' (L : List StpX) (q : Option Addr) (c : Nat), L.map (·.1) = (List.range H).map (stpAt m h d key) → Ext w w' → e = .returned (.tuple #[.slice q L.length c, .int .i64 0]) → w'.ownsRow w.heap.size 82 5 (.slice q L.length c) L.length (stC L) → StRows w' L → StpsOut ((List.range H).map (stpAt m h d key)) w e w') := Lib.hid (fun e w' L q c h1 h2 h3 h4 h5 => ⟨h2, L, q, c, h1, h3, h4, h5⟩)
  clear hH her hidx hp hs
  generalize StpsOut ((List.range H).map (stpAt m h d key)) w = OUT at *
  obtain ⟨np, hnp⟩ : ∃ np, np = H + 1 := ⟨_, rfl⟩
  rw [← hnp] at hb hb2 hx ⊢
  have Hnp := Lib.hid hnp
  have hnp7 : np ≤ 7 := by omega
  clear hnp
  go_enter Try.func18, Try.ntmps18
  go_upto_region 1 with (fail)
  refine wp_name (fun w1 => Ext w w1 ∧ Blk w1 w.heap.size (.cells (trC (.slice p n cap) h d) 55) ∧ Blk w1 (w.heap.size + 1) (.cells #[.slice qp np cp] 40)) ⟨hx, hb, hb2⟩ ?_
  clear hx hb hb2
  rintro w1 ⟨hx, hb, hb2⟩
  have c5 : w1.cell? ⟨w.heap.size, 5, none⟩ = some (.int .i64 h.height) := Blk.val hb 5 _ rfl
  rw [HH.out] at c5
  have lb := Blk.lt hb
  go_upto_region 3 with (fail)
  go_loopw [6, 14] (fun o i wr => ∃ (k : Nat) (L : List StpX), k ≤ H ∧ i = .int .i64 k ∧ L.map (·.1) = (List.range k).map (stpAt m h d key) ∧ Ext w wr ∧ Blk wr w.heap.size (.cells (trC (.slice p n cap) h d) 55) ∧ Blk wr (w.heap.size + 1) (.cells #[.slice qp np cp] 40) ∧ StRows wr L ∧ ∃ q c, o = .slice q L.length c ∧ wr.ownsRow w.heap.size 82 5 (.slice q L.length c) L.length (stC L)) (fun _ i _ => H - (intOf i).toNat)
  case atStart => exact ⟨0, [], Nat.zero_le _, rfl, rfl, hx, hb, hb2, (fun x hx => by cases hx), none, 0, rfl, World.ownsRow_nil _ _ _ _⟩
  case round =>
    clear hx hb hb2 c5 lb
    obtain ⟨k, L, hk, rfl, hmap, hx, hb, hb2, hrows, q, c, rfl, hown⟩ := hrel
    have hLk : L.length = k := by have := congrArg List.length hmap; simpa using this
    have HLk := Lib.hid hLk
    have HQ := Lib.hid (And.intro hx (And.intro hb (And.intro hb2 (And.intro hrows hown))))
    by_cases hlt : k < H
    · have hltI : (k : Int) < (H : Int) := by omega
      go_upto_region 5 with (fail)
      refine wp_name (fun w2 => Ext wr w2 ∧ Blk w2 wr.heap.size (.cells #[.int .i64 k] 3)) ⟨Ext.alloc _ _, Blk.new _ _⟩ ?_
      clear hx hb hb2 hrows hown
      rintro w2 ⟨he2, hk2⟩
      have hb2' := he2.blk _ _ HQ.out.2.1
      have hpb2 := he2.blk _ _ HQ.out.2.2.1
      have he0 : erAt m h d key k = 0 := erTo_zero Her.out hlt
      have hlv : h.height - (k : Int) = (H : Int) - (k : Int) := by have := HH.out; omega
      have hL := HL.out (pgAt m h d key k) ((H : Int) - (k : Int))
      have hnd : ndAt m h d key k = (loadD m d (pgAt m h d key k) ((H : Int) - (k : Int))).1 := by unfold ndAt; rw [hlv]
      have hea : erAt m h d key k = (loadD m d (pgAt m h d key k) ((H : Int) - (k : Int))).2 := by unfold erAt; rw [hlv]
      unfold Load22 at hL
      rw [← hnd, ← hea, he0] at hL
      have HLd : Hid (∀ W, Ext w2 W → Calls Try.prog 28 #[.agg (trC (.slice p n cap) h d), .int .i64 (pgAt m h d key k), .int .i64 ((H : Int) - (k : Int))] W fun e w' => Ext W w' ∧ ∃ q c, e = .returned (.tuple #[.agg #[.int .i64 (ndAt m h d key k).level, .int .i64 (ndAt m h d key k).next, .slice q (ndAt m h d key k).ents.length c], .int .i64 0]) ∧
          w'.ownsRow 0 73 2 (.slice q (ndAt m h d key k).ents.length c) (ndAt m h d key k).ents.length (entCells (ndAt m h d key k).ents)) := Lib.hid (fun W e => (hL W (Hs.out.ext ((HQ.out.1.trans he2).trans e))).mono (fun e' w' ⟨a1, q, c, a2, a3⟩ => ⟨a1, q, c, a2, own_le a3 (Nat.zero_le _)⟩))
      have hsp : NSpec (ndAt m h d key k) := by
        rw [hnd]; exact (load_spec (by rw [← hea]; exact he0)).1
      have hl120 := hsp.l2
      have hpi := Ints.ext Hp.out (HQ.out.1.trans he2)
      have Hpi := Lib.hid hpi
      obtain ⟨pb, off, hq0, hpb, hcell⟩ := hpi.at k (by rw [pathTo_len]; omega)
      have hcj := hcell k (by rw [pathTo_len]; omega)
      rw [pathTo_at m h d key H (by omega)] at hcj
      have hgd : (pathTo m h d key H).getD (k + 1) 0 = pgAt m h d key (k + 1) := pathTo_at m h d key H (by omega)
      have hix := Hidx.out k hlt
      have Hst : Hid (stpAt m h d key k = (pgAt m h d key k, findNd (ndAt m h d key k).ents key, ndAt m h d key k)) := Lib.hid rfl
      have hplen := pathTo_len m h d key H
      have HIx : Hid (∀ (q2 : Option Addr) (c2 : Nat) W, Ext w2 W → Nents W q2 (ndAt m h d key k).ents → Calls Try.prog 29 #[.slice q2 (ndAt m h d key k).ents.length c2, .func (.func 30) #[] #[.pointer (some ⟨w.heap.size + 1, 0, none⟩), .pointer (some ⟨wr.heap.size, 0, none⟩)]] W fun e w' => e = .returned (.int .i64 (findNd (ndAt m h d key k).ents key : Nat)) ∧ Ext W w') := Lib.hid (fun q2 c2 W e hh => by
        have := IndexP_any q2 c2 (ndAt m h d key k).ents (w.heap.size + 1) wr.heap.size qp np cp k (pathTo m h d key H) W hh (by omega) (e.blk _ _ hpb2) (e.blk _ _ hk2) (Ints.ext Hpi.out e) (by rw [hplen]; exact Hnp.out.symm) (by have := Hnp.out; omega) (by omega)
        rw [hgd, hix] at this
        exact this)
      subst hq0
      have c18 := HQ.out
      have c5 : w2.cell? ⟨w.heap.size, 5, none⟩ = some (.int .i64 h.height) := Blk.val hb2' 5 _ rfl
      rw [HH.out] at c5
      have c19 : w2.cell? ⟨w.heap.size + 1, 0, none⟩ = some (.slice (some ⟨pb, off, none⟩) np cp) := Blk.val hpb2 0 _ rfl
      have ck : w2.cell? ⟨wr.heap.size, 0, none⟩ = some (.int .i64 k) := Blk.val hk2 0 _ rfl
      have lb := Blk.lt hb2'
      have lp := Blk.lt hpb2
      have lk := Blk.lt hk2
      have hw1 : IntKind.i64.wrap ((H : Int) - (k : Int)) = (H : Int) - (k : Int) := IntWalk.i64_in _ (by omega)
      have hkI : (k : Int) < (np : Int) := by have := Hnp.out; omega
      have hkN : k < np := by have := Hnp.out; omega
      have Hb2 := Lib.hid hb2'
      have Hpb := Lib.hid hpb2
      have Hk2 := Lib.hid hk2
      have He2 := Lib.hid he2
      have Hmap := Lib.hid hmap
      clear hL hnd hea he0 hlv hsp hpi hcell hgd hix hplen c18 hb2' hpb2 hk2 he2 hmap hLk
      generalize findNd (ndAt m h d key k).ents key = i at *
      generalize ndAt m h d key k = nd at *
      generalize pgAt m h d key k = pg at *
      generalize wr.heap.size = kb at *
      refine wp_region_pk 200 [(15, [(14, 8)])] (Ext.refl w2) (by kernel_rfl) (by kernel_rfl) (by kernel_rfl) (by kernel_rfl) (by kernel_rfl) (by kernel_rfl) (gok_one _ _ 15 14 8 (TChg w2.heap.size 71) (PtrNF w2.heap.size 0 nd) (fun _ _ h => h.below) (PtrNF.stable _ _ _) (by kernel_rfl)) ?_
      simp only [List.take_succ_cons, List.take_zero, List.take_nil, List.drop_succ_cons, List.drop_zero, List.drop_nil, List.map_cons, List.map_nil]
      repeat (first
        | (refine wpPL_step (o := ⟨some 8, _, _, _, _, _⟩) (PtrF w2.heap.size (.cells #[.int .i64 0, .int .i64 0, .slice none 0 0] 71)) (PtrF.stable _ _) (by first | exact .inr (AppF.strong _ _ _ _ (by decide)) | exact .inr (WrF.strong _ _ _ _ (by decide)) | exact .inr (RowsF.strong _ _ _ _ _ _ _ _ (by decide)) | exact .inr (Fresh.strong _ _ _ _ _ _ _ (by decide)) | exact .inr (IfcF.strong (Fresh.strong _ _ _ _ _ _ _ (by decide)) _) | exact .inl (by kernel_rfl)) (by kernel_rfl) (by first | exact .inl rfl | exact .inr ⟨_, _, _, rfl, rfl, rfl⟩) ?_ ?_
           · intro a w' he hr K hK
             go_simp
             exact hK _ _ (Ext.alloc _ _) ⟨_, rfl, Blk.new _ _, he.size⟩
           simp only [setL, List.set_cons_succ, List.set_cons_zero])
        | (refine wpPL_det (o := ⟨some 18, _, _, _, _, _⟩) (v := .agg (trC (.slice p n cap) h d)) (by kernel_rfl) (by first | exact .inl rfl | exact .inr ⟨_, _, _, rfl, rfl, rfl⟩) ?_ ?_
           · intro a w' he hr K hK
             simp [Reads, Oper.looksAt, Op.operands, factAt, Is] at hr
             exact wp_load_row 55 (.tmp 2) rfl (w.heap.size) (by go_simp) _ _ _ _ (he.blk _ _ Hb2.out) trDesc rfl trSize (hK _ (Ext.refl _))
           simp only [setL, List.set_cons_succ, List.set_cons_zero])
        | (refine wpPL_step (o := ⟨some 28, _, _, _, _, _⟩) (LdF 0 nd 0) (LdF.stable _ _ _) (.inr (LdF.strong _ _ _ _ _)) (by kernel_rfl) (by first | exact .inl rfl | exact .inr ⟨_, _, _, rfl, rfl, rfl⟩) ?_ ?_
           · intro a w' he hr K hK
             simp [Reads, Oper.looksAt, Op.operands, Call.operands, factAt, Is] at hr
             go_simp
             refine (HLd.out _ he).mono ?_
             rintro e w'' ⟨he', q9, c9, rfl, hf⟩
             exact hK _ _ he' ⟨q9, c9, rfl, hf⟩
           simp only [setL, List.set_cons_succ, List.set_cons_zero])
        | (refine wpPL_move (o := ⟨some 17, _, _, _, _, _⟩) _ (LdF 0 nd 0) (by kernel_rfl) (by first | exact .inl rfl | exact .inr ⟨_, _, _, rfl, rfl, rfl⟩) (by first | exact .inl rfl | exact .inr rfl) rfl (LdF.stable _ _ _) (.inr (LdF.strong _ _ _ _ _)) ?_
           simp only [setL, List.set_cons_succ, List.set_cons_zero, List.getD_cons_succ, List.getD_cons_zero])
        | (refine wpPL_step (o := ⟨some 29, _, _, _, _, _⟩) (NvF 0 nd) (NvF.stable _ _) (.inr (NvF.strong _ _ _ _)) (by kernel_rfl) (by first | exact .inl rfl | exact .inr ⟨_, _, _, rfl, rfl, rfl⟩) ?_ ?_
           · intro a w' he hr K hK
             obtain ⟨q9, c9, h1, h9⟩ := hr 17 (by simp [Oper.looksAt, Op.operands])
             simp at h1
             go_simp
             exact hK _ _ (Ext.refl _) ⟨q9, c9, rfl, h9⟩
           simp only [setL, List.set_cons_succ, List.set_cons_zero])
        | (refine wpPL_det (o := ⟨some 30, _, _, _, _, _⟩) (v := .int .i64 0) (by kernel_rfl) (by first | exact .inl rfl | exact .inr ⟨_, _, _, rfl, rfl, rfl⟩) ?_ ?_
           · intro a w' he hr K hK
             obtain ⟨q9, c9, h1, h9⟩ := hr 17 (by simp [Oper.looksAt, Op.operands])
             simp at h1
             go_simp
             exact hK _ (Ext.refl _)
           simp only [setL, List.set_cons_succ, List.set_cons_zero])
        | (refine wpPL_pivot (o := ⟨none, _, _, _, _, _⟩) Any Any.stable (.inr Any.strong) (by kernel_rfl) (by first | exact .inl rfl | exact .inr ⟨_, _, _, rfl, rfl, rfl⟩) ?_ ?_
           · intro a w' he hr K hK
             obtain ⟨b, h1, h2, h3⟩ := hr 8 (by simp [Oper.looksAt, Op.operands])
             obtain ⟨q9, c9, hv, h9⟩ := hr 29 (by simp [Oper.looksAt, Op.operands])
             refine wp_store_row 71 (.tmp 8) (.tmp 29) rfl b _ h1 hv _ _ h2 ndSize rfl (by simp [Value.oneCell']) ?_
             exact hK _ _ ⟨b, _, h3, h2, Chg.setRow⟩ trivial (fun x hx _ y hy => by simp at hx; subst hx; simp at hy; subst hy; exact ⟨b, h1, q9, c9, Blk.setRow h2, own_tchg h9 (by decide) ⟨b, _, h3, h2, Chg.setRow⟩, h3⟩)
           simp only [setL, List.set_cons_succ, List.set_cons_zero])
        | (refine wpPL_move _ _ (by kernel_rfl) (by first | exact .inl rfl | exact .inr ⟨_, _, _, rfl, rfl, rfl⟩) (by first | exact .inl rfl | exact .inr rfl) rfl (by first | exact Is.stable _ | exact RowsF.stable _ _ _ _ _ | exact NoneF.stable _ _ | exact Fresh.stable _ _ _ | exact AppF.stable _ | exact WrF.stable _ | exact PtrF.stable _ _ | exact PlF.stable _ _) (by first | exact .inr (Is.strong _ _ _) | exact .inr (AppF.strong _ _ _ _ (by decide)) | exact .inr (WrF.strong _ _ _ _ (by decide)) | exact .inr (RowsF.strong _ _ _ _ _ _ _ _ (by decide)) | exact .inl (by kernel_rfl)) ?_
           simp only [setL, List.set_cons_succ, List.set_cons_zero, List.getD_cons_succ, List.getD_cons_zero])
        | (apply wpPL_det (by kernel_rfl) (by first | exact .inl rfl | exact .inr ⟨_, _, _, rfl, rfl, rfl⟩)
           · intro a w' he hr K hK
             simp [Reads, Oper.looksAt, Op.operands, Call.operands, factAt, Is] at hr
             have hx := he.cell
             go_simp
             try go_bits
             try (rw [if_neg (by omega)]; go_simp)
             first
               | exact hK _ (Ext.refl _)
           simp only [setL, List.set_cons_succ, List.set_cons_zero]))
      intro w2 he2
      simp only [killL, killIn, List.foldl_cons, List.foldl_nil, List.set_cons_succ, List.set_cons_zero]
      repeat (first | with_reducible refine rest_is _ _ _ _ ?_ | (with_reducible refine rest_fact _ _ _ _ ?_; intro _ _) | with_reducible refine rest_end _ _ ?_)
      simp only [List.reverse_cons, List.reverse_nil, List.nil_append, List.cons_append]
      rename_i x8 h8 x17 h17 x28 h28 x29 h29
      obtain ⟨nb, rfl, q2, c2, hn2, ho2, hnb⟩ := h8
      clear h17 h28 h29 hnb
      obtain ⟨wb, rfl⟩ : ∃ wb : World, wb = w2 := ⟨_, rfl⟩
      have HQ4 := Lib.hid (And.intro ((HQ.out.1.trans He2.out).trans he2) (And.intro (he2.blk _ _ Hb2.out) (And.intro (he2.blk _ _ Hpb.out) (And.intro (he2.blk _ _ Hk2.out) (And.intro hn2 (And.intro ho2 (And.intro (HQ.out.2.2.2.1.ext (He2.out.trans he2)) (own_ext HQ.out.2.2.2.2 (He2.out.trans he2)))))))))
      have HIx2 := Lib.hid (HIx.out q2 c2 wb he2 (own_cellsND ho2))
      have c52 : wb.cell? ⟨nb, 2, none⟩ = some (.slice q2 nd.ents.length c2) := Blk.val hn2 2 _ rfl
      have l52 := Blk.lt hn2
      have hcj4 := (he2.cell pb _ hpb).trans hcj
      have hpb4 := Nat.lt_of_lt_of_le hpb he2.size
      have hi0 : decide (((i : Nat) : Int) < 0) = false := decide_eq_false (by omega)
      clear hn2 ho2 he2 c5 c19 ck lb lp lk hcj hpb HIx HLd HQ Hb2 Hpb Hk2 He2
      go_upto_region 11 with (go_at_call 29; refine HIx2.out.mono ?_; rintro e w4 ⟨rfl, he4⟩)
      have HQ5 := Lib.hid (And.intro (HQ4.out.1.trans he4) (And.intro (he4.blk _ _ HQ4.out.2.1) (And.intro (he4.blk _ _ HQ4.out.2.2.1) (And.intro (he4.blk _ _ HQ4.out.2.2.2.2.1) (And.intro (own_ext HQ4.out.2.2.2.2.2.1 he4) (And.intro (HQ4.out.2.2.2.2.2.2.1.ext he4) (own_ext HQ4.out.2.2.2.2.2.2.2 he4)))))))
      have ck5 : w4.cell? ⟨kb, 0, none⟩ = some (.int .i64 k) := Blk.val (he4.blk _ _ HQ4.out.2.2.2.1) 0 _ rfl
      have lk5 := Blk.lt (he4.blk _ _ HQ4.out.2.2.2.1)
      have cp5 : w4.cell? ⟨w.heap.size + 1, 0, none⟩ = some (.slice (some ⟨pb, off, none⟩) np cp) := Blk.val HQ5.out.2.2.1 0 _ rfl
      have lp5 := Blk.lt HQ5.out.2.2.1
      have hcj5 := (he4.cell pb _ hpb4).trans hcj4
      have hpb5 := Nat.lt_of_lt_of_le hpb4 he4.size
      clear he4 hcj4 hpb4 c52 l52 HQ4 HIx2
      refine wp_region_mk 9 (Ext.refl w4) (by kernel_rfl) (by kernel_rfl) (by kernel_rfl) ?_
      simp only [List.take_succ_cons, List.take_zero, List.take_nil, List.drop_succ_cons, List.drop_zero, List.drop_nil, List.map_cons, List.map_nil]
      repeat (first
        | (refine wpML_det (o := ⟨some 46, _, _, _, _, _⟩) (v := .agg #[.int .i64 nd.level, .int .i64 nd.next, .slice q2 nd.ents.length c2]) rfl ?_ ?_
           · intro a w' he hr K hK
             simp [Reads, Oper.looksAt, Op.operands, factAt, Is] at hr
             exact wp_load_row 71 (.tmp 8) rfl (nb) (by go_simp) _ _ _ _ (he.blk _ _ HQ5.out.2.2.2.1) ndDesc rfl ndSize (hK _ (Ext.refl _))
           simp only [setL, List.set_cons_succ, List.set_cons_zero])
        | (refine wpML_det (o := ⟨some 47, _, _, _, _, _⟩) (v := .agg #[.int .i64 pg, .int .i64 (i : Nat), .int .i64 nd.level, .int .i64 nd.next, .slice q2 nd.ents.length c2]) rfl ?_ ?_
           · intro a w' he hr K hK
             have h1 := hr 44 (by simp [Oper.looksAt, Op.operands])
             have h2 := hr 45 (by simp [Oper.looksAt, Op.operands])
             have h3 := hr 46 (by simp [Oper.looksAt, Op.operands])
             refine wp_build 82 #[(0, .tmp 44), (1, .tmp 45), (2, .tmp 46)] rfl ?_ ?_
             · rw [(show ((#[(0, Operand.tmp 44), (1, Operand.tmp 45), (2, Operand.tmp 46)] : Array (Nat × Operand)).map fun (i, x) => (i, a.eval x)).toList = [(0, .int .i64 pg), (1, .int .i64 (i : Nat)), (2, .agg #[.int .i64 nd.level, .int .i64 nd.next, .slice q2 nd.ents.length c2])] from by simp only [List.map_toArray, List.map_cons, List.map_nil]; rw [show a.eval (.tmp 44) = _ from h1, show a.eval (.tmp 45) = _ from h2, show a.eval (.tmp 46) = _ from h3]), stBuilt]; rfl
             · rw [(show ((#[(0, Operand.tmp 44), (1, Operand.tmp 45), (2, Operand.tmp 46)] : Array (Nat × Operand)).map fun (i, x) => (i, a.eval x)).toList = [(0, .int .i64 pg), (1, .int .i64 (i : Nat)), (2, .agg #[.int .i64 nd.level, .int .i64 nd.next, .slice q2 nd.ents.length c2])] from by simp only [List.map_toArray, List.map_cons, List.map_nil]; rw [show a.eval (.tmp 44) = _ from h1, show a.eval (.tmp 45) = _ from h2, show a.eval (.tmp 46) = _ from h3]), stBuilt]
               exact hK _ (Ext.refl _)
           simp only [setL, List.set_cons_succ, List.set_cons_zero])
        | (refine wpML_fact (o := ⟨some 48, _, _, _, _, _⟩) (Fresh 1 1 (.cells #[.int .i64 pg, .int .i64 (i : Nat), .int .i64 nd.level, .int .i64 nd.next, .slice q2 nd.ents.length c2] 82)) (Fresh.stable _ _ _) rfl ?_ ?_
           · intro a w' he hr K hK
             simp [Reads, Oper.looksAt, Op.operands, Call.operands, factAt, Is] at hr
             go_simp
             exact hK _ _ (Ext.alloc _ _) (Fresh.new _ _ _ _)
           simp only [setL, List.set_cons_succ, List.set_cons_zero])
        | (refine wpML_move _ _ rfl (by first | exact .inl rfl | exact .inr rfl) rfl (by first | exact Is.stable _ | exact AppF.stable _ | exact WrF.stable _ | exact PtrF.stable _ _ | exact IfcF.stable (Fresh.stable _ _ _) _ | exact PairF.stable (RowF.stable _ _ _ _) _ | exact RowF.stable _ _ _ _ | exact Fresh.stable _ _ _) ?_
           simp only [setL, List.set_cons_succ, List.set_cons_zero, List.getD_cons_succ, List.getD_cons_zero])
        | (refine wpML_moveC _ rfl (by first | exact .inl rfl | exact .inr rfl) ?_
           simp only [setL, List.set_cons_succ, List.set_cons_zero])
        | (apply wpML_det rfl
           · intro a w' he hr K hK
             simp [Reads, Oper.looksAt, Op.operands, Call.operands, factAt, Is] at hr
             have hx := he.cell
             go_simp
             try go_bits
             try (rw [if_neg (by omega)]; go_simp)
             first
               | exact hK _ (Ext.refl _)
           simp only [setL, List.set_cons_succ, List.set_cons_zero])
        | (apply wpML_det rfl
           · intro a w' he hr K hK
             simp [Reads, Oper.looksAt, Op.operands, Call.operands, factAt, Fresh] at hr
             obtain ⟨b, hr1, hr2⟩ := hr
             go_simp
             exact hK _ (Ext.refl _)
           simp only [setL, List.set_cons_succ, List.set_cons_zero]))
      intro w2 he2
      repeat (first | with_reducible refine rest_is _ _ _ _ ?_ | (with_reducible refine rest_fact _ _ _ _ ?_; intro _ _) | with_reducible refine rest_end _ _ ?_)
      simp only [List.reverse_cons, List.reverse_nil, List.nil_append, List.cons_append]
      rename_i x48 h48
      obtain ⟨b48, rfl, hb48⟩ := h48
      have HQ6 := Lib.hid (And.intro (HQ5.out.1.trans he2) (And.intro (he2.blk _ _ HQ5.out.2.1) (And.intro (he2.blk _ _ HQ5.out.2.2.1) (And.intro (own_ext HQ5.out.2.2.2.2.1 he2) (And.intro (HQ5.out.2.2.2.2.2.1.ext he2) (own_ext HQ5.out.2.2.2.2.2.2 he2))))))
      have Hb48 := Lib.hid hb48
      have hsw := HQ6.out.1.size
      have hL9 : L.length ≤ 6 := by have := HLk.out; omega
      clear he2 hb48 ck5 lk5 cp5 lp5 hcj5 hpb5 HQ5
      go_wp2_with (at_builtin; refine wpList_appk (o := ⟨some 49, _, _, _, _, _⟩) rfl (.tmp 40) (.tmp 48) 59 82 rfl w.heap.size (.agg #[.int .i64 0, .int .i64 0, .int .i64 0, .int .i64 0, .slice none 0 0]) 5 56 Try.underlying59 infoStep rfl (by decide) _ L.length _ rfl HQ6.out.2.2.2.2.2 (some ⟨b48, 0, none⟩) 1 1 [.int .i64 pg, .int .i64 (i : Nat), .int .i64 nd.level, .int .i64 nd.next, .slice q2 nd.ents.length c2] rfl rfl rfl (blk_cells (ys := [.int .i64 pg, .int .i64 (i : Nat), .int .i64 nd.level, .int .i64 nd.next, .slice q2 nd.ents.length c2]) Hb48.out) (by intro u hu; simp at hu; rcases hu with rfl | rfl | rfl | rfl | rfl <;> rfl) (by omega) (by decide) hsw ?_; intro v8 w8 ho8 hg8; have r8 := rty_app hg8 HQ6.out.2.2.2.2.2 hsw; obtain ⟨q8, k8, rfl⟩ := own_slice ho8; have Hr8 := Lib.hid r8; have Ho8 := Lib.hid ho8; clear r8 ho8 hg8)
      go_roundw
      case rel =>
        refine ⟨k + 1, L ++ [((pg, i, nd), q2, c2)], by omega, by go_num, ?_, Ext.trans' HQ6.out.1 Hr8.out.1, Hr8.out.2 _ _ _ (by decide) HQ6.out.2.1, Hr8.out.2 _ _ _ (by decide) HQ6.out.2.2.1, ?_, q8, k8, by rw [List.length_append]; rfl, ?_⟩
        · rw [List.map_append, Hmap.out, List.range_succ, List.map_append]
          simp only [List.map_cons, List.map_nil]
          rw [Hst.out]
        · intro x hx
          rcases List.mem_append.1 hx with hx | hx
          · exact own_rty (HQ6.out.2.2.2.2.1 x hx) (by decide) Hr8.out
          · simp only [List.mem_singleton] at hx
            subst hx
            exact own_rty HQ6.out.2.2.2.1 (by decide) Hr8.out
        · rw [stC_snoc, List.length_append]
          exact Ho8.out
      case measure => simp [intOf]; omega
    · have hltI : decide ((k : Int) < (H : Int)) = false := decide_eq_false (by omega)
      have hltN : ¬ k < H := hlt
      have hkH : k = H := by omega
      have HO := Lib.hid (fun e w' => HOut.out e w' L q c (by rw [hmap, hkH]))
      clear hkH hmap hx hb hb2 hrows hown hLk
      go_wp2_with fail
      exact HO.out _ _ HQ.out.1 rfl HQ.out.2.2.2.2 HQ.out.2.2.2.1
end Go.Proofs.Ytolmoknjmdmpgaa
/- The walk of package index's writer.add, at any steps. -/
namespace Dsd
/-- What add makes of its last step, in parts. -/
theorem addGo_cons (d : DS) (s : Stp) (R : List Stp) (h : Hd) (out : List Wr) (b : List UInt8) (p : Int) : addGo d (s :: R) h out b p =
    if (insertNd s.2.2 (s.2.1 : Int) b p).2 ≠ 0 then (h, out, (insertNd s.2.2 (s.2.1 : Int) b p).2)
    else if nodeFits d.interval (insertNd s.2.2 (s.2.1 : Int) b p).1 then (h, out ++ [(s.1, Go.Proofs.Ytolmoknjmdmpgaa.encNS d.interval (insertNd s.2.2 (s.2.1 : Int) b p).1)], Go.Proofs.Ytolmoknjmdmpgaa.encNE d.interval (insertNd s.2.2 (s.2.1 : Int) b p).1)
    else if (splitNd (insertNd s.2.2 (s.2.1 : Int) b p).1).2.2.2 ≠ 0 then (h, out, (splitNd (insertNd s.2.2 (s.2.1 : Int) b p).1).2.2.2)
    else if Go.Proofs.Ytolmoknjmdmpgaa.encNE d.interval { (splitNd (insertNd s.2.2 (s.2.1 : Int) b p).1).1 with next := h.fin + 1 } ≠ 0 then ({ h with fin := h.fin + 1 }, out ++ [(s.1, Go.Proofs.Ytolmoknjmdmpgaa.encNS d.interval { (splitNd (insertNd s.2.2 (s.2.1 : Int) b p).1).1 with next := h.fin + 1 })], Go.Proofs.Ytolmoknjmdmpgaa.encNE d.interval { (splitNd (insertNd s.2.2 (s.2.1 : Int) b p).1).1 with next := h.fin + 1 })
    else if Go.Proofs.Ytolmoknjmdmpgaa.encNE d.interval (splitNd (insertNd s.2.2 (s.2.1 : Int) b p).1).2.1 ≠ 0 then ({ h with fin := h.fin + 1 }, out ++ [(s.1, Go.Proofs.Ytolmoknjmdmpgaa.encNS d.interval { (splitNd (insertNd s.2.2 (s.2.1 : Int) b p).1).1 with next := h.fin + 1 }), (h.fin + 1, Go.Proofs.Ytolmoknjmdmpgaa.encNS d.interval (splitNd (insertNd s.2.2 (s.2.1 : Int) b p).1).2.1)], Go.Proofs.Ytolmoknjmdmpgaa.encNE d.interval (splitNd (insertNd s.2.2 (s.2.1 : Int) b p).1).2.1)
    else addGo d R { h with fin := h.fin + 1 } (out ++ [(s.1, Go.Proofs.Ytolmoknjmdmpgaa.encNS d.interval { (splitNd (insertNd s.2.2 (s.2.1 : Int) b p).1).1 with next := h.fin + 1 }), (h.fin + 1, Go.Proofs.Ytolmoknjmdmpgaa.encNS d.interval (splitNd (insertNd s.2.2 (s.2.1 : Int) b p).1).2.1)]) (splitNd (insertNd s.2.2 (s.2.1 : Int) b p).1).2.2.1 (h.fin + 1) := by
  rw [addGo]
end Dsd
namespace Go.Proofs.Ytolmoknjmdmpgaa
open Go.RowKit Dsd
/-- A row of steps that is read. -/
def StAt (w : World) (q : Option Addr) (L : List StpX) : Prop := (L = [] ∨ ∃ g cur, q = some ⟨g, 0, none⟩ ∧ Blk w g (.cells cur 82) ∧ cur.toList.take (L.length * 5) = stC L) ∧ StRows w L
theorem StAt.ext {w w' : World} {q : Option Addr} {L : List StpX} (h : StAt w q L) (e : Ext w w') : StAt w' q L := by
  obtain ⟨h1 | ⟨g, cur, h1, h2, h3⟩, h4⟩ := h
  · exact ⟨.inl h1, h4.ext e⟩
  · exact ⟨.inr ⟨g, cur, h1, e.blk _ _ h2, h3⟩, h4.ext e⟩
theorem StAt.twr {B : Nat} {w w' : World} {q : Option Addr} {L : List StpX} (h : StAt w q L) (e : TWr B w w') : StAt w' q L := by
  have h5 : ∀ (h4 : StRows w L), StRows w' L := fun h4 x hx => TWr.own (h4 x hx) (by decide) (by decide) e
  obtain ⟨h1 | ⟨g, cur, h1, h2, h3⟩, h4⟩ := h
  · exact ⟨.inl h1, h5 h4⟩
  · exact ⟨.inr ⟨g, cur, h1, e.2 _ _ _ (by decide) (by decide) h2, h3⟩, h5 h4⟩
theorem stC_len (L : List StpX) : (stC L).length = L.length * 5 := by
  induction L with
  | nil => rfl
  | cons x L ih =>
    have e : stC (x :: L) = [.int .i64 x.1.1, .int .i64 (x.1.2.1 : Nat), .int .i64 x.1.2.2.level, .int .i64 x.1.2.2.next, .slice x.2.1 x.1.2.2.ents.length x.2.2] ++ stC L := by simp [stC]
    rw [e, List.length_append, ih]
    simp; omega
theorem StAt.init {w : World} {q : Option Addr} {L : List StpX} {x : StpX} (h : StAt w q (L ++ [x])) : StAt w q L := by
  obtain ⟨h1, h4⟩ := h
  refine ⟨?_, fun y hy => h4 y (List.mem_append_left _ hy)⟩
  rcases h1 with h1 | ⟨g, cur, h1, h2, h3⟩
  · exact absurd h1 (by simp)
  · refine .inr ⟨g, cur, h1, h2, ?_⟩
    have := congrArg (List.take (L.length * 5)) h3
    rw [List.take_take, stC_snoc, List.take_left' (stC_len L)] at this
    rw [← this, Nat.min_eq_left (by simp; omega)]
theorem StAt.last {w : World} {q : Option Addr} {L : List StpX} {x : StpX} (h : StAt w q (L ++ [x])) : ∃ g, q = some ⟨g, 0, none⟩ ∧ g < w.heap.size ∧ w.cell? ⟨g, L.length * 5, none⟩ = some (.int .i64 x.1.1) ∧ w.cell? ⟨g, L.length * 5 + 1, none⟩ = some (.int .i64 (x.1.2.1 : Nat)) ∧
    w.cell? ⟨g, L.length * 5 + 2, none⟩ = some (.int .i64 x.1.2.2.level) ∧ w.cell? ⟨g, L.length * 5 + 3, none⟩ = some (.int .i64 x.1.2.2.next) ∧ w.cell? ⟨g, L.length * 5 + 4, none⟩ = some (.slice x.2.1 x.1.2.2.ents.length x.2.2) ∧
    w.ownsRow 0 73 2 (.slice x.2.1 x.1.2.2.ents.length x.2.2) x.1.2.2.ents.length (entCells x.1.2.2.ents) := by
  obtain ⟨h1, h4⟩ := h
  rcases h1 with h1 | ⟨g, cur, h1, h2, h3⟩
  · exact absurd h1 (by simp)
  · have hj : ∀ j v, j < 5 → [.int .i64 x.1.1, .int .i64 (x.1.2.1 : Nat), .int .i64 x.1.2.2.level, .int .i64 x.1.2.2.next, .slice x.2.1 x.1.2.2.ents.length x.2.2][j]? = some v → w.cell? ⟨g, L.length * 5 + j, none⟩ = some v := by
      intro j v hj hv
      refine Blk.val h2 _ _ ?_
      have h5 : (stC (L ++ [x]))[L.length * 5 + j]? = some v := by
        rw [stC_snoc, List.getElem?_append_right (by rw [stC_len]; omega), stC_len, Nat.add_sub_cancel_left]
        exact hv
      rw [← h3, List.getElem?_take_of_lt (by simp; omega), Array.getElem?_toList] at h5
      exact h5
    exact ⟨g, h1, Blk.lt h2, hj 0 _ (by omega) rfl, hj 1 _ (by omega) rfl, hj 2 _ (by omega) rfl, hj 3 _ (by omega) rfl, hj 4 _ (by omega) rfl, h4 x (by simp)⟩
/-- What add hands back. -/
def AddOut (B wb : Nat) (d : DS) (r : Hd × List Wr × Int) (w : World) (e : Ending) (w' : World) : Prop := e = .returned (.int .i64 r.2.2) ∧ WrS B wb r.1 d r.2.1 w' ∧ TWr B w w'
end Go.Proofs.Ytolmoknjmdmpgaa
