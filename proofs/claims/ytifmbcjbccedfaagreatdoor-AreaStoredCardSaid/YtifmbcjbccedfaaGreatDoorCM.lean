/- A part of the proof. -/
import Derived.Test.YtifmbcjbccedfaaGreatDoorPW
import Derived.Test.YtifmbcjbccedfaaGreatDoorBM
import Derived.Test.YtifmbcjbccedfaaGreatDoorDD
import Derived.Test.YtifmbcjbccedfaaGreatDoorW3

set_option linter.unusedSimpArgs false
set_option linter.unusedVariables false
namespace Dsd
theorem decErr_ne (size : Int) (s : List UInt8) : decErr size s ≠ 0 := by
 unfold decErr
 split
 · decide
 · split
   · decide
   · split <;> decide
end Dsd
namespace Go.Proofs.YtifmbcjbccedfaaGreatDoor
open Go.RowKit Dsd
theorem arC_zero0 : arC Ar.zero none 0 none 0 = arZ := rfl
theorem ArV.zero0 (w : World) : ArV w Ar.zero none 0 none 0 := ⟨.inl rfl, ⟨[], .inl rfl, rfl, fun i h => by simp [Ar.zero] at h⟩, Nat.le_refl _, Nat.le_refl _, by decide, Typ.nil _ _, Typ.nil _ _⟩
theorem arBuilt2 (base lv nx : Int) (q : Option Addr) (n c : Nat) : Tryz.prog.built 29 [(0, .int .i64 base), (1, .agg #[.int .i64 lv, .int .i64 nx, .slice q n c])] = some #[.int .i64 base, .int .i64 lv, .int .i64 nx, .slice q n c, .slice none 0 0] := by kernel_rfl
def ReadOut (r : Ar × Int) (w : World) (e : Ending) (w' : World) : Prop := Ext w w' ∧ ∃ q c p m, e = .returned (.tuple #[.agg (arC r.1 q c p m), .int .i64 r.2]) ∧ ArV w' r.1 q c p m
structure RdS (w : World) (d : DS) (base : Int) (nd : Nd) (q : Option Addr) (c ab : Nat) (V : List Recs) (p3 : Option Addr) (m3 : Nat) (vs : List Value) (wr : World) : Prop where
 ext : Ext w wr
 ds : DsAt wr w.heap.size d
 res : Blk wr (w.heap.size + 1) (.cells arZ 29)
 ar : ArAt wr ab ⟨base, nd, V⟩ q c p3 m3
 abg : w.heap.size + 1 < ab
 ents : wr.ownsRow w.heap.size 63 2 (.slice q nd.ents.length c) nd.ents.length (entCells nd.ents)
 rows : wr.ownsRow w.heap.size 30 1 (.slice p3 V.length m3) V.length vs
 own : OwnRows wr w.heap.size vs V
 sm : ∀ L ∈ V, Small L
theorem RdS.more {w : World} {d : DS} {base : Int} {nd : Nd} {q : Option Addr} {c ab : Nat} {V : List Recs} {p3 : Option Addr} {m3 : Nat} {vs : List Value} {w1 w2 : World} (h : RdS w d base nd q c ab V p3 m3 vs w1) (e : Ext w1 w2) : RdS w d base nd q c ab V p3 m3 vs w2 :=
 ⟨h.ext.trans e, h.ds.ext e, e.blk _ _ h.res, h.ar.ext e, h.abg, own_ext h.ents e, own_ext h.rows e, h.own.ext e, h.sm⟩
theorem RdS.arv {w : World} {d : DS} {base : Int} {nd : Nd} {q : Option Addr} {c ab : Nat} {V : List Recs} {p3 : Option Addr} {m3 : Nat} {vs : List Value} {w1 : World} (h : RdS w d base nd q c ab V p3 m3 vs w1) : ArV w1 ⟨base, nd, V⟩ q c p3 m3 := ArV.of_clone h.ents h.rows h.own
theorem OwnRows.snoc {w : World} {B : Nat} {vs : List Value} {V : List Recs} {v : Value} {L : Recs} (h : OwnRows w B vs V) (hL : w.ownsRow B 9 1 v L.length (L.map fun s => .string ⟨s.toArray⟩)) (hn : ∀ i g, i < V.length → (vs.getD i undef).ownBlock = some g → v.ownBlock ≠ some g) : OwnRows w B (vs ++ [v]) (V ++ [L]) := by
 have e0 : ∀ i, i < V.length → (vs ++ [v]).getD i undef = vs.getD i undef := fun i hi => by simp [List.getD, List.getElem?_append_left (show i < vs.length by rw [h.len]; exact hi)]
 have e1 : ∀ i, i < V.length → (V ++ [L]).getD i [] = V.getD i [] := fun i hi => by simp [List.getD, List.getElem?_append_left hi]
 have e2 : (vs ++ [v]).getD V.length undef = v := by rw [← h.len]; simp [List.getD]
 have e3 : (V ++ [L]).getD V.length [] = L := by simp [List.getD]
 refine ⟨by simp [h.len], fun i hi => ?_, fun i j g hij hj hg => ?_⟩
 · rcases Nat.lt_or_ge i V.length with h1 | h1
   · rw [e0 i h1, e1 i h1]; exact h.own i h1
   · obtain rfl : i = V.length := by simp at hi; omega
     rw [e2, e3]; exact hL
 · simp at hj
   rw [e0 i (by omega)] at hg
   rcases Nat.lt_or_ge j V.length with h1 | h1
   · rw [e0 j h1]; exact h.apart i j g hij h1 hg
   · obtain rfl : j = V.length := by omega
     rw [e2]; exact hn i g hij hg
theorem OwnRows.rty {w w' : World} {B : Nat} {t : TypeId} {vs : List Value} {V : List Recs} (h : OwnRows w B vs V) (hne : 9 ≠ t) (r : RTy B t w w') : OwnRows w' B vs V := ⟨h.len, fun i hi => own_rty (h.own i hi) hne r, h.apart⟩
theorem OwnRows.chgT {w w' : World} {B g : Nat} {t : TypeId} {cs : Array Value} {vs : List Value} {V : List Recs} (h : OwnRows w B vs V) (hb : Blk w g (.cells cs t)) (hne : 9 ≠ t) (c : Chg g w w') : OwnRows w' B vs V := ⟨h.len, fun i hi => own_chgT (h.own i hi) hne hb c, h.apart⟩
set_option maxRecDepth 100000 in
set_option maxHeartbeats 4000000 in
theorem ReadP_any (p : Option Addr) (cap n : Nat) (M : List (List UInt8)) (d : DS) (base : Int) (w : World) (hs : Strs w p M) (hn : M.length = n) (hm : Small M) :
   Calls Tryz.prog 8 #[.iface 37 (.slice p n cap), .agg #[.int .i64 d.id, .int .i64 d.org, .int .i64 d.format, .int .i64 d.length, .int .i64 d.block, .int .i64 d.keyAt, .int .i64 d.keyLength, .int .i64 d.interval, .int .i64 d.area, .int .i64 d.freeInterval, .int .i64 d.freeArea, .int .i64 d.base, .int .i64 d.altAt, .int .i64 d.altLength, .bool d.unique, .int .i64 d.cls, .string ⟨d.volume.toArray⟩, .string ⟨d.owner.toArray⟩, .int .i64 d.created, .int .i64 d.expires, .bool d.archived], .int .i64 base] w (ReadOut (readD M d base) w) := by
 have HD := Lib.hid (fun W => described_any d W)
 have HB := Lib.hid (fun W => isBase_any base W)
 have hx0 := ds_ar w d Ar.zero none 0 none 0
 rw [arC_zero0] at hx0
 have HZ : Hid (∀ e w' c, readD M d base = (Ar.zero, c) → Ext w w' → e = .returned (.tuple #[.agg arZ, .int .i64 c]) → ReadOut (readD M d base) w e w') := Lib.hid (fun e w' c hc h1 h2 => by
   rw [hc]
   exact ⟨h1, none, 0, none, 0, h2, ArV.zero0 w'⟩)
 cases hk : keyedB d
 · have HO := Lib.hid (fun e w' => HZ.out e w' 1 (readD_arg (.inl hk)))
   rw [hk] at HD
   clear HZ hs hn hm hk
   generalize ReadOut (readD M d base) w = OUT at *
   go_enter Tryz.func8, Tryz.ntmps8
   go_upto_region 1 with fail
   refine wp_name (fun w0 => Ext w w0 ∧ DsAt w0 w.heap.size d ∧ Blk w0 (w.heap.size + 1) (.cells arZ 29)) hx0 ?_
   clear hx0
   rintro w0 ⟨he0, hd0, hz0⟩
   go_wp2_with (first
     | (refine wpList_ds (o := ⟨some 17, _, _, _, _, _⟩) rfl (.tmp 4) rfl _ rfl d hd0 ?_)
     | (go_at_call 29; refine (HD.out _).mono ?_; rintro e w1 ⟨rfl, he1⟩; have hz1 := he1.blk _ _ hz0)
     | (refine wpList_bld (o := ⟨some 25, _, _, _, _, _⟩) rfl 29 #[] rfl [] rfl _ arZ_built ?_)
     | (refine wpList_put rfl 29 (.tmp 6) (.tmp 25) rfl _ arZ rfl rfl _ _ hz1 arSize rfl (by simp [arZ, Value.oneCell']) ?_; intro w3 hz3 hc3))
   exact bodyPost_ret (results_row1 Tryz.results8 _ _ _ _ _ _ rfl hz3 arDesc rfl arSize) rfl (HO.out _ _ (hc3.ext (he0.trans he1) (by omega)) rfl)
 · rw [hk] at HD
   cases hb : isBaseB base
   · have HO := Lib.hid (fun e w' => HZ.out e w' 1 (readD_arg (.inr hb)))
     rw [hb] at HB
     clear HZ hs hn hm hk hb
     generalize ReadOut (readD M d base) w = OUT at *
     go_enter Tryz.func8, Tryz.ntmps8
     go_upto_region 1 with fail
     refine wp_name (fun w0 => Ext w w0 ∧ DsAt w0 w.heap.size d ∧ Blk w0 (w.heap.size + 1) (.cells arZ 29)) hx0 ?_
     clear hx0
     rintro w0 ⟨he0, hd0, hz0⟩
     go_wp2_with (first
       | (refine wpList_ds (o := ⟨some 17, _, _, _, _, _⟩) rfl (.tmp 4) rfl _ rfl d hd0 ?_)
       | (go_at_call 29; refine (HD.out _).mono ?_; rintro e w1 ⟨rfl, he1⟩; have hz1 := he1.blk _ _ hz0)
       | (go_at_call 30; refine (HB.out _).mono ?_; rintro e w2 ⟨rfl, rfl⟩)
       | (refine wpList_bld (o := ⟨some 25, _, _, _, _, _⟩) rfl 29 #[] rfl [] rfl _ arZ_built ?_)
       | (refine wpList_put rfl 29 (.tmp 6) (.tmp 25) rfl _ arZ rfl rfl _ _ hz1 arSize rfl (by simp [arZ, Value.oneCell']) ?_; intro w3 hz3 hc3))
     exact bodyPost_ret (results_row1 Tryz.results8 _ _ _ _ _ _ rfl hz3 arDesc rfl arSize) rfl (HO.out _ _ (hc3.ext (he0.trans he1) (by omega)) rfl)
   · rw [hb] at HB
     have Hpg := Lib.hid (fun pg w h => Page_any p cap n M pg w h hn (by have := hm.1; omega))
     have Hps := Lib.hid (fun pg => pageOf_small hm pg)
     have Hs := Lib.hid hs
     have hmp := method_page
     have Hk := Lib.hid (And.intro hk hb)
     clear hs hn hm
     by_cases hpe : (pageOf M base).2 = 0
     case' neg =>
       have hei : ((pageOf M base).2 != 0) = true := by simpa using hpe
       have HO := Lib.hid (fun e w' => HZ.out e w' _ (readD_page hk hb hpe))
       have Hp1 := Lib.hid (fun w h => Hpg.out base w h)
       clear HZ hpe hk hb
       generalize (pageOf M base).2 = pe at *
       generalize (pageOf M base).1 = ps at *
       generalize ReadOut (readD M d base) w = OUT at *
       go_enter Tryz.func8, Tryz.ntmps8
       go_upto_region 1 with fail
       refine wp_name (fun w0 => Ext w w0 ∧ DsAt w0 w.heap.size d ∧ Blk w0 (w.heap.size + 1) (.cells arZ 29)) hx0 ?_
       clear hx0
       rintro w0 ⟨he0, hd0, hz0⟩
       go_wp2_with (first
         | (refine wpList_ds (o := ⟨some 17, _, _, _, _, _⟩) rfl (.tmp 4) rfl _ rfl d hd0 ?_)
         | (go_at_call 29; refine (HD.out _).mono ?_; rintro e w1 ⟨rfl, he1⟩; have hz1 := he1.blk _ _ hz0)
         | (go_at_call 30; refine (HB.out _).mono ?_; rintro e w2 ⟨rfl, rfl⟩)
         | (go_at_call 34; refine (Hp1.out _ (Hs.out.ext (he0.trans he1))).mono ?_; rintro e w2 ⟨rfl, rfl⟩)
         | (refine wpList_bld (o := ⟨some 34, _, _, _, _, _⟩) rfl 29 #[] rfl [] rfl _ arZ_built ?_)
         | (refine wpList_put rfl 29 (.tmp 6) (.tmp 34) rfl _ arZ rfl rfl _ _ hz1 arSize rfl (by simp [arZ, Value.oneCell']) ?_; intro w3 hz3 hc3))
       exact bodyPost_ret (results_row1 Tryz.results8 _ _ _ _ _ _ rfl hz3 arDesc rfl arSize) rfl (HO.out _ _ (hc3.ext (he0.trans he1) (by omega)) rfl)
     have HDe := Lib.hid (fun W => DecodeN_any d.interval (pageOf M base).1 (Hps.out base) W)
     unfold DecNOut at HDe
     obtain ⟨nd, hnd⟩ : ∃ nd, nd = decNd d.interval (pageOf M base).1 := ⟨_, rfl⟩
     rw [← hnd] at HDe
     have hRh := readD_head hk hb hpe
     rw [← hnd] at hRh
     have HRh := Lib.hid hRh
     have HRg := Lib.hid (fun h4 h5 => readD_go (n := nd) hk hb hpe h4 hnd.symm h5)
     have Hp1 := Lib.hid (fun w h => Hpg.out base w h)
     rw [hpe] at Hp1
     have hndl : nd.ents.length ≤ 1000000 := by rw [hnd]; exact dec_few _ _
     have HZ2 := HZ
     clear HZ hnd hRh
     generalize hpsx : (pageOf M base).1 = ps at *
     clear hpsx
     generalize decE d.interval ps = er at *
     have HSh := Lib.hid (fun q c W (hv : ArW W ⟨base, nd, []⟩ q c none 0) => shapedG_anyW d ⟨base, nd, []⟩ q c none 0 W hk hv hndl)
     rw [show shapedB d base nd = headB d base nd from shaped_head hb] at HSh
     have HO : Hid (∀ e w', ReadOut (readD M d base) w e w' → ReadOut (readD M d base) w e w') := Lib.hid (fun _ _ h => h)
     obtain ⟨RD, hRD⟩ : ∃ RD, RD = readD M d base := ⟨_, rfl⟩
     rw [← hRD] at HZ2 HRh HRg HO ⊢
     clear hRD hk hb hpe
     generalize hOU : ReadOut RD w = OUT at *
     have HOU := Lib.hid hOU
     clear hOU HO
     go_enter Tryz.func8, Tryz.ntmps8
     go_upto_region 1 with fail
     refine wp_name (fun w0 => Ext w w0 ∧ DsAt w0 w.heap.size d ∧ Blk w0 (w.heap.size + 1) (.cells arZ 29)) hx0 ?_
     clear hx0
     rintro w0 ⟨he0, hd0, hz0⟩
     go_upto_region 3 with (first
       | (refine wpList_ds (o := ⟨some 17, _, _, _, _, _⟩) rfl (.tmp 4) rfl _ rfl d hd0 ?_)
       | (go_at_call 29; refine (HD.out _).mono ?_; rintro e w1 ⟨rfl, he1⟩)
       | (go_at_call 30; refine (HB.out _).mono ?_; rintro e w2 ⟨rfl, rfl⟩))
     have hx1 := he0.trans he1
     have hd1 := hd0.ext he1
     have hz1 := he1.blk _ _ hz0
     clear he0 hd0 hz0 he1
     have k7 := Blk.val hd1 7 (.int .i64 d.interval) rfl
     have l7 := Blk.lt hd1
     go_upto_region 7 with (first
       | (go_at_call 34; refine (Hp1.out _ (Hs.out.ext hx1)).mono ?_; rintro e w2 ⟨rfl, rfl⟩)
       | (go_at_call 31; refine (HDe.out _).mono ?_; rintro e w2 ⟨he2, q2, c2, rfl, ho2⟩))
     have hxn := Ext.alloc w2 (.cells #[.int .i64 nd.level, .int .i64 nd.next, .slice q2 nd.ents.length c2] 26)
     have hbn := Blk.new w2 (.cells #[.int .i64 nd.level, .int .i64 nd.next, .slice q2 nd.ents.length c2] 26)
     refine wp_name (fun w3 => Ext w w3 ∧ DsAt w3 w.heap.size d ∧ Blk w3 (w.heap.size + 1) (.cells arZ 29) ∧ Blk w3 w2.heap.size (.cells #[.int .i64 nd.level, .int .i64 nd.next, .slice q2 nd.ents.length c2] 26) ∧ w3.ownsRow w.heap.size 63 2 (.slice q2 nd.ents.length c2) nd.ents.length (entCells nd.ents)) ⟨hx1.trans (he2.trans hxn), hd1.ext (he2.trans hxn), (he2.trans hxn).blk _ _ hz1, hbn, own_le (own_ext ho2 hxn) hx1.size⟩ ?_
     clear hxn hbn ho2 he2 hx1 hd1 hz1 k7 l7
     generalize w2.heap.size = nb at *
     rintro w3 ⟨hx3, hd3, hz3, hn3, ho3⟩
     have HQ3 := Lib.hid (And.intro hx3 (And.intro hd3 (And.intro hz3 ho3)))
     clear hx3 hd3 hz3 ho3
     go_upto_region 8 with (first
       | ((with_reducible (show wpList _ _ _ (⟨some 44, _, _, _, _, _⟩ :: _) _ _)); refine wpList_row (o := ⟨some 44, _, _, _, _, _⟩) rfl 26 (.tmp 10) rfl _ rfl _ _ _ hn3 ndDesc rfl ndSize ?_)
       | ((with_reducible (show wpList _ _ _ (⟨some 45, _, _, _, _, _⟩ :: _) _ _)); refine wpList_bld (o := ⟨some 45, _, _, _, _, _⟩) rfl 29 #[(0, .tmp 43), (1, .tmp 44)] rfl [(0, .int .i64 base), (1, .agg #[.int .i64 nd.level, .int .i64 nd.next, .slice q2 nd.ents.length c2])] rfl _ (arBuilt2 _ _ _ _ _ _) ?_))
     have hxa := Ext.alloc w3 (.cells (arC ⟨base, nd, []⟩ q2 c2 none 0) 29)
     have hba := Blk.new w3 (.cells (arC ⟨base, nd, []⟩ q2 c2 none 0) 29)
     refine wp_name (fun w4 => RdS w d base nd q2 c2 w3.heap.size [] none 0 [] w4 ∧ Blk w4 nb (.cells #[.int .i64 nd.level, .int .i64 nd.next, .slice q2 nd.ents.length c2] 26)) ⟨⟨HQ3.out.1.trans hxa, HQ3.out.2.1.ext hxa, hxa.blk _ _ HQ3.out.2.2.1, hba, Blk.lt HQ3.out.2.2.1, own_ext HQ3.out.2.2.2 hxa, World.ownsRow_nil _ _ _ _, ⟨rfl, fun i hi => absurd hi (Nat.not_lt_zero _), fun i j g _ hj => absurd hj (Nat.not_lt_zero _)⟩, fun L hL => by cases hL⟩, hxa.blk _ _ hn3⟩ ?_
     clear hxa hba HQ3 hn3
     generalize w3.heap.size = ab at *
     clear w3
     rintro w4 ⟨hst4, hn4⟩
     have Hst4 := Lib.hid hst4
     have hd4 := hst4.ds
     have ha4 := hst4.ar
     have hz4 := hst4.res
     clear hst4
     by_cases her : er = 0
     case' neg =>
       have hei : (er != 0) = true := by simpa using her
       have HO := Lib.hid (fun e w' => HZ2.out e w' 11 (HRh.out (.inl her)))
       clear her
       go_wp2_with (first
         | (refine wpList_bld (o := ⟨some 54, _, _, _, _, _⟩) rfl 29 #[] rfl [] rfl _ arZ_built ?_)
         | (refine wpList_put rfl 29 (.tmp 6) (.tmp 54) rfl _ arZ rfl rfl _ _ hz4 arSize rfl (by simp [arZ, Value.oneCell']) ?_; intro w5 hz5 hc5))
       exact bodyPost_ret (results_row1 Tryz.results8 _ _ _ _ _ _ rfl hz5 arDesc rfl arSize) rfl (HO.out _ _ (hc5.ext Hst4.out.ext (by omega)) rfl)
     have hei : (er != 0) = false := by simp [her]
     subst her
     cases hh : headB d base nd
     · have HO := Lib.hid (fun e w' => HZ2.out e w' 11 (HRh.out (.inr hh)))
       rw [hh] at HSh
       clear hh
       go_wp2_with (first
         | (refine wpList_ds (o := ⟨some 49, _, _, _, _, _⟩) rfl (.tmp 4) rfl _ rfl d hd4 ?_)
         | (refine wpList_row (o := ⟨some 50, _, _, _, _, _⟩) rfl 29 (.tmp 11) rfl _ rfl _ _ _ ha4 arDesc rfl arSize ?_)
         | (go_at_call 32; refine (HSh.out _ _ _ Hst4.out.arv.x).mono ?_; rintro e w5 ⟨rfl, he5⟩; have hz5 := he5.blk _ _ hz4)
         | (refine wpList_bld (o := ⟨some 54, _, _, _, _, _⟩) rfl 29 #[] rfl [] rfl _ arZ_built ?_)
         | (refine wpList_put rfl 29 (.tmp 6) (.tmp 54) rfl _ arZ rfl rfl _ _ hz5 arSize rfl (by simp [arZ, Value.oneCell']) ?_; intro w6 hz6 hc6))
       exact bodyPost_ret (results_row1 Tryz.results8 _ _ _ _ _ _ rfl hz6 arDesc rfl arSize) rfl (HO.out _ _ (hc6.ext (Hst4.out.ext.trans he5) (by omega)) rfl)
     · have HRD := Lib.hid (HRg.out rfl hh)
       rw [hh] at HSh
       clear hh HRg HRh
       have n2 := Blk.val hn4 2 (.slice q2 nd.ents.length c2) rfl
       have ln := Blk.lt hn4
       go_upto_region 10 with (first
         | (refine wpList_ds (o := ⟨some 49, _, _, _, _, _⟩) rfl (.tmp 4) rfl _ rfl d hd4 ?_)
         | (refine wpList_row (o := ⟨some 50, _, _, _, _, _⟩) rfl 29 (.tmp 11) rfl _ rfl _ _ _ ha4 arDesc rfl arSize ?_)
         | (go_at_call 32; refine (HSh.out _ _ _ Hst4.out.arv.x).mono ?_; rintro e w5 ⟨rfl, he5⟩))
       have hst5 := Hst4.out.more he5
       have n25 := Blk.val (he5.blk _ _ hn4) 2 (.slice q2 nd.ents.length c2) rfl
       have ln5 := Blk.lt (he5.blk _ _ hn4)
       have Hst5 := Lib.hid hst5
       clear hst5 he5 hd4 ha4 hz4 hn4 n2 ln HSh Hst4
       go_upto_region 11 with fail
       clear n25 ln5
       go_loopw [58] (fun i wr => ∃ (k : Nat) (V : List Recs) (p3 : Option Addr) (m3 : Nat) (vs : List Value), k ≤ nd.ents.length ∧ i = .int .i64 k ∧ V.length = k ∧ RdS w d base nd q2 c2 ab V p3 m3 vs wr ∧ rdGo M d.interval nd.ents [] = rdGo M d.interval (nd.ents.drop k) V) (fun i _ => nd.ents.length - (intOf i).toNat)
       case atStart => exact ⟨0, [], none, 0, [], Nat.zero_le _, rfl, rfl, Hst5.out, by rw [List.drop_zero]⟩
       case round =>
         obtain ⟨k, V, p3, m3, vs, hk, rfl, hVl, hst, hrd⟩ := hrel
         have Hst := Lib.hid hst
         have Hrd := Lib.hid hrd
         have HVl := Lib.hid hVl
         by_cases hlt : k < nd.ents.length
         · have hltI : (k : Int) < nd.ents.length := by omega
           obtain ⟨gi, oi, hq, hgi, hic⟩ := (own_cellsND hst.ents).at k hlt
           subst hq
           obtain ⟨ic0, ic1⟩ := hic k hlt
           have Hpe := Lib.hid (fun (h9 : (pageOf M (entAt nd.ents k).2).2 ≠ 0) => rdGo_page (size := d.interval) (V := V) hlt h9)
           have Hno := Lib.hid (fun (h9 : (pageOf M (entAt nd.ents k).2).2 = 0) hn => rdGo_none (size := d.interval) (V := V) hlt h9 hn)
           have Hso := Lib.hid (fun (h9 : (pageOf M (entAt nd.ents k).2).2 = 0) (L : Recs) hL => rdGo_some (size := d.interval) (V := V) (L := L) hlt h9 hL)
           generalize (entAt nd.ents k).1 = bs at *
           generalize (entAt nd.ents k).2 = pg at *
           have Hlt := Lib.hid hlt
           clear hic hst hrd hVl
           go_upto_region 13 with fail
           have hxe := Ext.alloc wr (.cells #[.string ⟨bs.toArray⟩, .int .i64 pg] 63)
           have hbe := Blk.new wr (.cells #[.string ⟨bs.toArray⟩, .int .i64 pg] 63)
           refine wp_name (fun w6 => RdS w d base nd (some ⟨gi, oi, none⟩) c2 ab V p3 m3 vs w6 ∧ Blk w6 wr.heap.size (.cells #[.string ⟨bs.toArray⟩, .int .i64 pg] 63)) ⟨Hst.out.more hxe, hbe⟩ ?_
           clear hxe hbe ic0 ic1 hgi Hst
           generalize wr.heap.size = eb at *
           rintro w6 ⟨hst6, hb6⟩
           have Hst6 := Lib.hid hst6
           have e1 := Blk.val hb6 1 (.int .i64 pg) rfl
           have le := Blk.lt hb6
           have hz6 := hst6.res
           have k7 := Blk.val hst6.ds 7 (.int .i64 d.interval) rfl
           have l7 := Blk.lt hst6.ds
           have ha6 := hst6.ar
           have k4 : w6.cell? ⟨ab, 4, none⟩ = some (.slice p3 V.length m3) := Blk.val ha6 4 _ rfl
           have Hp6 := Lib.hid (Hpg.out pg w6 (Hs.out.ext hst6.ext))
           clear hst6 hb6
           by_cases hpe2 : (pageOf M pg).2 = 0
           case' neg =>
             have hei2 : ((pageOf M pg).2 != 0) = true := by simpa using hpe2
             have HO := Lib.hid (fun e w' => HZ2.out e w' (pageOf M pg).2 (by rw [HRD.out, Hrd.out, Hpe.out hpe2, if_pos hpe2]))
             clear hpe2
             generalize (pageOf M pg).2 = pe at *
             generalize (pageOf M pg).1 = ps2 at *
             go_wp2_with (first
               | (go_at_call 34; refine Hp6.out.mono ?_; rintro e w7 ⟨rfl, rfl⟩)
               | (refine wpList_bld (o := ⟨some 71, _, _, _, _, _⟩) rfl 29 #[] rfl [] rfl _ arZ_built ?_)
               | (refine wpList_put rfl 29 (.tmp 6) (.tmp 71) rfl _ arZ rfl rfl _ _ hz6 arSize rfl (by simp [arZ, Value.oneCell']) ?_; intro w8 hz8 hc8))
             exact bodyPost_ret (results_row1 Tryz.results8 _ _ _ _ _ _ rfl hz8 arDesc rfl arSize) rfl (HO.out _ _ (hc8.ext Hst6.out.ext (by omega)) rfl)
           rw [hpe2] at Hp6
           have HDc := Lib.hid (Decode_any d.interval (pageOf M pg).1 (Hps.out pg))
           by_cases hE : ∃ L, Enc d.interval L (pageOf M pg).1
           · obtain ⟨L, hL⟩ := hE
             have HDs : Hid (∀ W, Calls Tryz.prog 33 #[.int .i64 d.interval, .string ⟨(pageOf M pg).1.toArray⟩] W fun e w' => Ext W w' ∧ ∃ q c, e = .returned (.tuple #[.slice q L.length c, .int .i64 0]) ∧ Small L ∧ w'.ownsRow W.heap.size 9 1 (.slice q L.length c) L.length (L.map fun s => .string ⟨s.toArray⟩)) := Lib.hid (fun W => (HDc.out W).mono (by
               rintro e w' ⟨h1, ⟨q, c, L2, h2, _, h3, h4, _, _, h5⟩ | ⟨_, h2⟩⟩
               · have e2 : L2 = L := by have := (decOf_some h4).symm.trans (decOf_some hL); exact Option.some.inj this
                 subst e2
                 exact ⟨h1, q, c, h2, h3, h5⟩
               · exact absurd hL (h2 L)))
             have HRn := Lib.hid (Hso.out hpe2 L hL)
             clear hpe2 hL HDc Hpe Hno Hso
             generalize (pageOf M pg).1 = ps2 at *
             go_upto_region 19 with (first
               | (go_at_call 34; refine Hp6.out.mono ?_; rintro e w7 ⟨rfl, rfl⟩)
               | (go_at_call 33; refine (HDs.out _).mono ?_; rintro e w8 ⟨he8, q8, c8, rfl, hsm8, ho8⟩))
             have hst8 := Hst6.out.more he8
             have hnew : ∀ i g, i < V.length → (vs.getD i undef).ownBlock = some g → (Value.slice q8 L.length c8).ownBlock ≠ some g := fun i g hi hg hg2 => by
               have h1 := own_block (Hst6.out.own.own i hi) hg
               have h2 := own_block ho8 hg2
               omega
             have hVm : V.length ≤ 1000000 := by have := HVl.out; have := Hlt.out; omega
             have Hst8 := Lib.hid hst8
             have Ho8 := Lib.hid (And.intro hsm8 (And.intro (own_le ho8 Hst6.out.ext.size) hnew))
             have k48 : w8.cell? ⟨ab, 4, none⟩ = some (.slice p3 V.length m3) := Blk.val hst8.ar 4 _ rfl
             have l48 := Blk.lt hst8.ar
             clear hst8 he8 hsm8 ho8 hnew hz6 k7 l7 ha6 k4 e1 le
             go_upto_region 20 with (at_builtin; refine wpList_app (o := ⟨some 87, _, _, _, _, _⟩) rfl (.tmp 84) (.tmp 86) 27 30 rfl w.heap.size (.slice none 0 0) 1 24 Tryz.underlying27 infoRowA rfl (by decide) _ V.length _ rfl (own_ext Hst8.out.rows (Ext.alloc w8 _)) _ [.slice q8 L.length c8] rfl (Blk.new w8 _) rfl (by intro u hu; simp at hu; subst hu; rfl) (by omega) (by decide) (by have := Hst8.out.ext.size; simp; omega) ?_; intro v9 w9 ho9 hg9; have r9 := rty_app (T := 30) hg9 (own_ext Hst8.out.rows (Ext.alloc w8 _)) (by have := Hst8.out.ext.size; simp; omega); obtain ⟨q9, c9, rfl⟩ := own_slice ho9; have ha9 := r9.2 _ _ _ (by decide) ((Ext.alloc w8 (.cells #[.slice q8 L.length c8] 30)).blk _ _ Hst8.out.ar); have k49 : w9.cell? ⟨ab, 4, none⟩ = some (.slice p3 V.length m3) := Blk.val ha9 4 _ rfl; have f49 := Blk.free ha9 4; have l49 := Blk.lt ha9; have Ho9 := Lib.hid ho9; have Hr9 := Lib.hid r9; have Ha9 := Lib.hid ha9; clear ho9 hg9 r9 ha9)
             have hcS := Chg.setCell (w := w9) (g := ab) (i := 4) (v := .slice q9 (V.length + 1) c9)
             have h4 := Blk.setCell (i := 4) (v := .slice q9 (V.length + 1) c9) Ha9.out
             have e4 : (arC ⟨base, nd, V⟩ (some ⟨gi, oi, none⟩) c2 p3 m3).setIfInBounds 4 (.slice q9 (V.length + 1) c9) = arC ⟨base, nd, V ++ [L]⟩ (some ⟨gi, oi, none⟩) c2 q9 c9 := by unfold arC; simp
             rw [e4] at h4
             have hxl := Ext.alloc w8 (.cells #[.slice q8 L.length c8] 30)
             have hab := Hst8.out.abg
             have hnS : RdS w d base nd (some ⟨gi, oi, none⟩) c2 ab (V ++ [L]) q9 c9 (vs ++ [.slice q8 L.length c8]) (w9.setCell ⟨ab, 4, none⟩ (.slice q9 (V.length + 1) c9)) := by
               refine ⟨hcS.ext (Ext.trans' (Hst8.out.ext.trans hxl) Hr9.out.1) (by omega), hcS.blk (Hr9.out.2 _ _ _ (by decide) (hxl.blk _ _ Hst8.out.ds)) (by omega), hcS.blk (Hr9.out.2 _ _ _ (by decide) (hxl.blk _ _ Hst8.out.res)) (by omega), h4, hab, own_chgT (own_rty (own_ext Hst8.out.ents hxl) (by decide) Hr9.out) (by decide) Ha9.out hcS, ?_, (((OwnRows.snoc Hst8.out.own Ho8.out.2.1 Ho8.out.2.2).ext hxl).rty (by decide) Hr9.out).chgT Ha9.out (by decide) hcS, fun X hX => ?_⟩
               · have := own_chgT Ho9.out (by decide) Ha9.out hcS
                 rw [List.length_append]
                 exact this
               · rcases List.mem_append.1 hX with h | h
                 · exact Hst8.out.sm X h
                 · obtain rfl := List.mem_singleton.1 h
                   exact Ho8.out.1
             have HnS := Lib.hid hnS
             clear hcS h4 e4 hxl hab hnS k48 l48 k49 f49 l49
             have hlt2 := Hlt.out
             go_wp2_with fail
             have hvl2 := HVl.out
             refine ⟨⟨k + 1, V ++ [L], q9, c9, vs ++ [.slice q8 L.length c8], by omega, by go_num, by rw [List.length_append, hvl2]; rfl, HnS.out, by rw [Hrd.out, HRn.out]⟩, by simp [intOf]; omega⟩
           · have hnE : ∀ L, ¬ Enc d.interval L (pageOf M pg).1 := fun L hL => hE ⟨L, hL⟩
             have HDs : Hid (∀ W, Calls Tryz.prog 33 #[.int .i64 d.interval, .string ⟨(pageOf M pg).1.toArray⟩] W fun e w' => Ext W w' ∧ e = .returned (.tuple #[.slice none 0 0, .int .i64 (decErr d.interval (pageOf M pg).1)])) := Lib.hid (fun W => (HDc.out W).mono (by
               rintro e w' ⟨h1, ⟨q, c, L2, h2, _, h3, h4, _⟩ | ⟨h2, _⟩⟩
               · exact absurd h4 (hnE L2)
               · exact ⟨h1, h2⟩))
             have HO := Lib.hid (fun e w' => HZ2.out e w' 11 (by rw [HRD.out, Hrd.out, Hno.out hpe2 hnE, if_pos (by simp)]))
             have hei3 : (decErr d.interval (pageOf M pg).1 != 0) = true := by simpa using decErr_ne d.interval (pageOf M pg).1
             clear hpe2 hE hnE HDc Hpe Hno Hso
             generalize decErr d.interval (pageOf M pg).1 = de at *
             generalize (pageOf M pg).1 = ps2 at *
             go_wp2_with (first
               | (go_at_call 34; refine Hp6.out.mono ?_; rintro e w7 ⟨rfl, rfl⟩)
               | (go_at_call 33; refine (HDs.out _).mono ?_; rintro e w8 ⟨he8, rfl⟩; have hz8 := he8.blk _ _ hz6)
               | (refine wpList_bld (o := ⟨some 82, _, _, _, _, _⟩) rfl 29 #[] rfl [] rfl _ arZ_built ?_)
               | (refine wpList_put rfl 29 (.tmp 6) (.tmp 82) rfl _ arZ rfl rfl _ _ hz8 arSize rfl (by simp [arZ, Value.oneCell']) ?_; intro w9 hz9 hc9))
             exact bodyPost_ret (results_row1 Tryz.results8 _ _ _ _ _ _ rfl hz9 arDesc rfl arSize) rfl (HO.out _ _ (hc9.ext (Hst6.out.ext.trans he8) (by omega)) rfl)
         · have hke : k = nd.ents.length := by omega
           have hge : decide ((k : Int) < (nd.ents.length : Int)) = false := decide_eq_false (by omega)
           have hfin : rdGo M d.interval nd.ents [] = (V, 0) := by rw [hrd, hke]; exact rdGo_end
           have hVm : V.length ≤ 1000000 := by omega
           have hRD2 : RD = if areaB d ⟨base, nd, V⟩ = false then (Ar.zero, 11) else (⟨base, nd, V⟩, 0) := by rw [HRD.out, hfin, if_neg (by simp)]
           have HVa := Lib.hid (fun W (e : Ext wr W) => ValidG_anyW d ⟨base, nd, V⟩ q2 c2 p3 m3 W (hst.arv.x.ext e) hndl hVm (fun i => by
             by_cases hi : i < V.length
             · have e9 : V.getD i [] = V[i] := by simp [List.getD, hi]
               rw [e9]; exact hst.sm _ (List.getElem_mem hi)
             · have e9 : V.getD i [] = [] := by simp [List.getD, List.getElem?_eq_none (Nat.le_of_not_lt hi)]
               rw [e9]; exact ⟨by simp, by simp⟩))
           have hdw := hst.ds
           have haw := hst.ar
           have hzw := hst.res
           clear hst hrd hke hVl hk
           cases hA : areaB d ⟨base, nd, V⟩
           · rw [hA] at HVa
             have HO := Lib.hid (fun e w' => HZ2.out e w' 11 (by rw [hRD2, hA, if_pos rfl]))
             clear hA hRD2
             go_wp2_with (first
               | ((with_reducible (show wpList _ _ _ (⟨some 90, _, _, _, _, _⟩ :: _) _ _)); refine wpList_ds (o := ⟨some 90, _, _, _, _, _⟩) rfl (.tmp 4) rfl _ rfl d hdw ?_)
               | ((with_reducible (show wpList _ _ _ (⟨some 91, _, _, _, _, _⟩ :: _) _ _)); refine wpList_row (o := ⟨some 91, _, _, _, _, _⟩) rfl 29 (.tmp 11) rfl _ rfl _ _ _ haw arDesc rfl arSize ?_)
               | (go_at_call 10; refine (HVa.out _ (Ext.refl _)).mono ?_; rintro e w5 ⟨rfl, he5⟩; have hz5 := he5.blk _ _ hzw)
               | (refine wpList_bld (o := ⟨some 94, _, _, _, _, _⟩) rfl 29 #[] rfl [] rfl _ arZ_built ?_)
               | (refine wpList_put rfl 29 (.tmp 6) (.tmp 94) rfl _ arZ rfl rfl _ _ hz5 arSize rfl (by simp [arZ, Value.oneCell']) ?_; intro w6 hz6 hc6))
             exact bodyPost_ret (results_row1 Tryz.results8 _ _ _ _ _ _ rfl hz6 arDesc rfl arSize) rfl (HO.out _ _ (hc6.ext (Hst.out.ext.trans he5) (by omega)) rfl)
           · rw [hA] at HVa
             rw [hA, if_neg (by simp)] at hRD2
             have HR2 := Lib.hid hRD2
             clear hA hRD2
             go_wp2_with (first
               | ((with_reducible (show wpList _ _ _ (⟨some 90, _, _, _, _, _⟩ :: _) _ _)); refine wpList_ds (o := ⟨some 90, _, _, _, _, _⟩) rfl (.tmp 4) rfl _ rfl d hdw ?_)
               | ((with_reducible (show wpList _ _ _ (⟨some 91, _, _, _, _, _⟩ :: _) _ _)); refine wpList_row (o := ⟨some 91, _, _, _, _, _⟩) rfl 29 (.tmp 11) rfl _ rfl _ _ _ haw arDesc rfl arSize ?_)
               | (go_at_call 10; refine (HVa.out _ (Ext.refl _)).mono ?_; rintro e w5 ⟨rfl, he5⟩; have hz5 := he5.blk _ _ hzw; have ha5 := haw.ext he5)
               | ((with_reducible (show wpList _ _ _ (⟨some 95, _, _, _, _, _⟩ :: _) _ _)); refine wpList_row (o := ⟨some 95, _, _, _, _, _⟩) rfl 29 (.tmp 11) rfl _ rfl _ _ _ ha5 arDesc rfl arSize ?_)
               | (refine wpList_put rfl 29 (.tmp 6) (.tmp 95) rfl _ (arC ⟨base, nd, V⟩ q2 c2 p3 m3) rfl rfl _ _ hz5 arSize rfl (ar_one _ _ _ _ _) ?_; intro w6 hz6 hc6))
             refine bodyPost_ret (results_row1 Tryz.results8 _ _ _ _ _ _ rfl hz6 arDesc rfl arSize) rfl ?_
             rw [← HOU.out, HR2.out]
             exact ⟨hc6.ext (Hst.out.ext.trans he5) (by omega), q2, c2, p3, m3, rfl, (Hst.out.more he5).arv.chgA hz5 (by decide) (by decide) (by decide) hc6⟩
end Go.Proofs.YtifmbcjbccedfaaGreatDoor
