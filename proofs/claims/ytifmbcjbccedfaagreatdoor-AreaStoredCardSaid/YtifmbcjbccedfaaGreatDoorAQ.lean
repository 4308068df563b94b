/- A part of the proof. -/
import Derived.Test.YtifmbcjbccedfaaGreatDoorAO
import Derived.Lib.Bytealg
set_option linter.unusedSimpArgs false
set_option linter.unusedVariables false
namespace Go.Proofs.YtifmbcjbccedfaaGreatDoor
open Go.RowKit Dsd
theorem results_row0 {P : Program} {fn : Func} {p : Tmp} {ty : TypeId} (h : fn.results = #[.cell p ty]) (tmps : Array Value) (w : World) (g : Nat) (t : TypeId) (cs : Array Value) (d : TypeDesc)
   (hp : tmps.getD p undef = .pointer (some ⟨g, 0, none⟩)) (hg : Blk w g (.cells cs t)) (hu : P.underlying ty = some d) (hd : (match d with | .struct _ | .array _ _ => true | _ => false) = true) (hi : (P.info? ty).map (·.size) = some cs.size) :
   (results fn tmps).run P w = .ok (.agg cs) w := by
 have hp' : tmps[p]?.getD undef = .pointer (some ⟨g, 0, none⟩) := by simpa using hp
 have hlr := run_loadVar_row w g t ty cs (0, 0) d hg hu hd hi
 simp [results, h, hp', asAddr, hlr, Sem.run_bind]
structure OwnRows (w : World) (B : Nat) (vs : List Value) (V : List Recs) : Prop where
 len : vs.length = V.length
 own : ∀ i, i < V.length → w.ownsRow B 9 1 (vs.getD i undef) (V.getD i []).length ((V.getD i []).map fun s => .string ⟨s.toArray⟩)
 apart : ∀ i j g, i < j → j < V.length → (vs.getD i undef).ownBlock = some g → (vs.getD j undef).ownBlock ≠ some g
structure Mix (w : World) (B k : Nat) (vs vs0 : List Value) (V : List Recs) : Prop where
 len : vs.length = V.length
 own : ∀ i, i < k → w.ownsRow B 9 1 (vs.getD i undef) (V.getD i []).length ((V.getD i []).map fun s => .string ⟨s.toArray⟩)
 apart : ∀ i j g, i < j → j < k → (vs.getD i undef).ownBlock = some g → (vs.getD j undef).ownBlock ≠ some g
 old : ∀ i, k ≤ i → vs.getD i undef = vs0.getD i undef
theorem own_block {w : World} {B : Nat} {e : TypeId} {k n : Nat} {v : Value} {xs : List Value} (h : w.ownsRow B e k v n xs) {g : Nat} (hg : v.ownBlock = some g) : B ≤ g ∧ g < w.heap.size := by
 obtain ⟨hl, ⟨hv, h0⟩ | ⟨g', cap, cur, hv, h1, h2, _⟩⟩ := h
 · subst hv; simp [Value.ownBlock] at hg
 · subst hv
   simp only [Value.ownBlock, Option.some.injEq] at hg
   subst hg
   exact ⟨h1, Blk.lt h2⟩
theorem getD_set_same {xs : List Value} {i : Nat} {v : Value} (h : i < xs.length) : (xs.set i v).getD i undef = v := by simp [List.getD, h]
theorem getD_set_ne {xs : List Value} {i j : Nat} {v : Value} (h : i ≠ j) : (xs.set i v).getD j undef = xs.getD j undef := by simp [List.getD, List.getElem?_set, h]
theorem Mix.step {w w5 w6 : World} {B k g : Nat} {vs vs0 : List Value} {cs : Array Value} {V : List Recs} {v : Value} (h : Mix w B k vs vs0 V) (hk : k < V.length) (hB : B ≤ w.heap.size) (e : Ext w w5) (ho : w5.ownsRow w.heap.size 9 1 v (V.getD k []).length ((V.getD k []).map fun s => .string ⟨s.toArray⟩))
   (hb : Blk w5 g (.cells cs 30)) (c : Chg g w5 w6) : Mix w6 B (k + 1) (vs.set k v) vs0 V := by
 refine ⟨by simp [h.len], fun i hi => ?_, fun i j g' hij hj hg' => ?_, fun i hi => ?_⟩
 · by_cases hik : i = k
   · subst hik
     rw [getD_set_same (by rw [h.len]; exact hk)]
     exact own_chgT (own_le ho hB) (by decide) hb c
   · rw [getD_set_ne (fun e => hik e.symm)]
     exact own_chgT (own_ext (h.own i (by omega)) e) (by decide) hb c
 · rw [getD_set_ne (by omega)] at hg'
   by_cases hjk : j = k
   · subst hjk
     rw [getD_set_same (by rw [h.len]; exact hk)]
     intro he
     have h1 := (own_block (h.own i hij) hg').2
     have h2 := (own_block ho he).1
     omega
   · rw [getD_set_ne (fun e => hjk e.symm)]
     exact h.apart i j g' hij (by omega) hg'
 · rw [getD_set_ne (by omega)]
   exact h.old i (by omega)
theorem blk_ne {w : World} {b g : Nat} {cs cs' : Array Value} {t t' : TypeId} (h : Blk w b (.cells cs t)) (h' : Blk w g (.cells cs' t')) (hne : t ≠ t') : b ≠ g := fun e => by
 subst e
 have := h.symm.trans h'
 simp at this
 exact hne this.2
theorem ar_one (a : Ar) (q : Option Addr) (c : Nat) (p : Option Addr) (m : Nat) : (arC a q c p m).all (·.oneCell') = true := by unfold arC; simp [Value.oneCell']
theorem row_one (L : Recs) : ∀ u ∈ (L.map fun s => Value.string ⟨s.toArray⟩), u.oneCell' = true := strs_one L
theorem vs_one {w : World} {vs : List Value} {V : List Recs} (h : RowsX w vs V) : ∀ u ∈ vs, u.oneCell' = true := fun u hu => by
 obtain ⟨i, hi, rfl⟩ := List.mem_iff_getElem.1 hu
 obtain ⟨q, c, h1, _⟩ := h.2 i (by rw [← h.1]; exact hi)
 have e : vs.getD i undef = vs[i] := by simp [List.getD, hi]
 rw [e] at h1
 rw [h1]; rfl
def CloneOut (a : Ar) (w : World) (e : Ending) (w' : World) : Prop := Ext w w' ∧ ∃ q c p m vs, e = .returned (.agg (arC a q c p m)) ∧
 w'.ownsRow w.heap.size 63 2 (.slice q a.nd.ents.length c) a.nd.ents.length (entCells a.nd.ents) ∧
 w'.ownsRow w.heap.size 30 1 (.slice p a.ivs.length m) a.ivs.length vs ∧ OwnRows w' w.heap.size vs a.ivs
set_option maxRecDepth 100000 in
set_option maxHeartbeats 2000000 in
theorem CloneA_anyW (a : Ar) (q : Option Addr) (c : Nat) (p : Option Addr) (m : Nat) (w : World) (hv : ArW w a q c p m) (h1 : 0 < a.nd.ents.length) (h2 : 0 < a.ivs.length) (h3 : a.nd.ents.length ≤ 1000000) (h4 : a.ivs.length ≤ 1000000) (h5 : ∀ i, (a.ivs.getD i []).length ≤ 1000000) :
   Calls Tryz.prog 57 #[.agg (arC a q c p m)] w (CloneOut a w) := by
 obtain ⟨vs0, hc0, hr0⟩ := hv.ivs
 have HE := Lib.hid (fun W (e : Ext w W) => CloneE_any q c a.nd.ents.length (entCells a.nd.ents) W (hv.ents.ext e) (entCells_len _) (entCells_one _) h3 (fun hq => by
   obtain ⟨_, _, h, _⟩ := hv.ents.at 0 h1
   rw [hq] at h; cases h))
 have HR := Lib.hid (fun W (e : Ext w W) => CloneR_any p m a.ivs.length vs0 W (hc0.ext e) (by rw [hr0.1]; omega) (vs_one hr0) h4 (fun hp => by
   obtain ⟨_, _, h, _⟩ := hc0.at 0 (by rw [hr0.1]; exact h2)
   rw [hp] at h; cases h))
 have Hr0 := Lib.hid hr0
 have H5 := Lib.hid h5
 have hln0 := hr0.1
 clear hv hc0 hr0 h1 h2 h3 h5
 have hb0 := Blk.new w (.cells (arC a q c p m) 29)
 have hb1 := Blk.new (w.alloc (.cells (arC a q c p m) 29)) (.cells #[.int .i64 0, .int .i64 0, .int .i64 0, .slice none 0 0, .slice none 0 0] 29)
 go_enter Tryz.func57, Tryz.ntmps57
 go_upto_region 1 with (fail)
 refine wp_name (fun w0 => Ext w w0 ∧ ArAt w0 w.heap.size a q c p m ∧ Blk w0 (w.heap.size + 1) (.cells #[.int .i64 0, .int .i64 0, .int .i64 0, .slice none 0 0, .slice none 0 0] 29)) ⟨(Ext.alloc _ _).trans (Ext.alloc _ _), Blk.alloc hb0 _, by simpa using hb1⟩ ?_
 clear hb0 hb1
 rintro w0 ⟨he0, ha0, hz0⟩
 obtain ⟨e0, e1, e2, e3, e4, la⟩ := ha0.cells
 go_upto_region 2 with (go_at_call 105; refine (HE.out _ he0).mono ?_; rintro e w1 ⟨he1, v1, rfl, ho1⟩; obtain ⟨q1, c1, rfl⟩ := own_slice ho1; have ha1 := ha0.ext he1; have hf1 := Blk.free ha1 3; have k3 := Blk.val ha1 3 _ rfl; have la1 := Blk.lt ha1)
 have c1' : Chg w.heap.size w1 (w1.setCell ⟨w.heap.size, 3, none⟩ (.slice q1 a.nd.ents.length c1)) := Chg.setCell
 refine wp_name (fun w2 => Ext w w2 ∧ Blk w2 w.heap.size (.cells #[.int .i64 a.base, .int .i64 a.nd.level, .int .i64 a.nd.next, .slice q1 a.nd.ents.length c1, .slice p a.ivs.length m] 29) ∧ Blk w2 (w.heap.size + 1) (.cells #[.int .i64 0, .int .i64 0, .int .i64 0, .slice none 0 0, .slice none 0 0] 29) ∧ w2.ownsRow w.heap.size 63 2 (.slice q1 a.nd.ents.length c1) a.nd.ents.length (entCells a.nd.ents))
   ⟨c1'.ext (he0.trans he1) (Nat.le_refl _), Blk.setCell ha1, c1'.blk (he1.blk _ _ hz0) (by omega), own_chgT (own_le ho1 he0.size) (by decide) ha1 c1'⟩ ?_
 clear c1' ha1 hf1 k3 la1 ho1 he1 e0 e1 e2 e3 e4 la ha0 hz0 he0
 rintro w2 ⟨he2, ha2, hz2, ho2⟩
 have k4 := Blk.val ha2 4 _ rfl
 have la2 := Blk.lt ha2
 go_upto_region 3 with (go_at_call 106; refine (HR.out _ he2).mono ?_; rintro e w3 ⟨he3, v3, rfl, ho3⟩; obtain ⟨q3, c3, rfl⟩ := own_slice ho3; have ha3 := he3.blk _ _ ha2; have hf3 := Blk.free ha3 4; have k4' := Blk.val ha3 4 _ rfl; have la3 := Blk.lt ha3)
 have c3' : Chg w.heap.size w3 (w3.setCell ⟨w.heap.size, 4, none⟩ (.slice q3 a.ivs.length c3)) := Chg.setCell
 refine wp_name (fun w4 => Ext w w4 ∧ Blk w4 w.heap.size (.cells (arC a q1 c1 q3 c3) 29) ∧ Blk w4 (w.heap.size + 1) (.cells #[.int .i64 0, .int .i64 0, .int .i64 0, .slice none 0 0, .slice none 0 0] 29) ∧ w4.ownsRow w.heap.size 63 2 (.slice q1 a.nd.ents.length c1) a.nd.ents.length (entCells a.nd.ents) ∧ w4.ownsRow w.heap.size 30 1 (.slice q3 a.ivs.length c3) a.ivs.length vs0)
   ⟨c3'.ext (he2.trans he3) (Nat.le_refl _), Blk.setCell ha3, c3'.blk (he3.blk _ _ hz2) (by omega), own_chgT (own_ext ho2 he3) (by decide) ha3 c3', own_chgT (own_le ho3 he2.size) (by decide) ha3 c3'⟩ ?_
 clear c3' ha3 hf3 k4' la3 ho3 he3 k4 la2 ha2 hz2 ho2 he2
 rintro w4 ⟨he4, ha4, hz4, hoE, hoV⟩
 have k4 := (ArAt.cells ha4).2.2.2.2.1
 have la4 := Blk.lt ha4
 go_upto_region 4 with (fail)
 clear k4 la4
 go_loopw [17] (fun i wr => ∃ k : Nat, k ≤ a.ivs.length ∧ i = .int .i64 k ∧ Ext w wr ∧ ArAt wr w.heap.size a q1 c1 q3 c3 ∧ Blk wr (w.heap.size + 1) (.cells #[.int .i64 0, .int .i64 0, .int .i64 0, .slice none 0 0, .slice none 0 0] 29) ∧ wr.ownsRow w.heap.size 63 2 (.slice q1 a.nd.ents.length c1) a.nd.ents.length (entCells a.nd.ents) ∧ ∃ vs, wr.ownsRow w.heap.size 30 1 (.slice q3 a.ivs.length c3) a.ivs.length vs ∧ Mix wr w.heap.size k vs vs0 a.ivs) (fun i _ => a.ivs.length - (intOf i).toNat)
 case atStart => exact ⟨0, Nat.zero_le _, rfl, he4, ha4, hz4, hoE, vs0, hoV, ⟨hln0, fun i hi => absurd hi (Nat.not_lt_zero _), fun i j g _ hj => absurd hj (Nat.not_lt_zero _), fun _ _ => rfl⟩⟩
 case round =>
   clear hoE hoV ha4 hz4 he4
   obtain ⟨k, hk, rfl, hex, ha, hz, hoE, vs, hoV, hmix⟩ := hrel
   by_cases hlt : k < a.ivs.length
   · have hltI : (k : Int) < a.ivs.length := by omega
     obtain ⟨g, rfl, hg0, hgl, hgf, hgc, hgs⟩ := own_set hoV k hlt
     obtain ⟨qi, ci, hvi, hsi, hli, hmi, hni⟩ := Hr0.out.2 k hlt
     rw [hmix.old k (Nat.le_refl _), hvi] at hgc
     have HC := Lib.hid (fun W (e : Ext wr W) => CloneS_any qi ci (a.ivs.getD k []).length ((a.ivs.getD k []).map fun s : List UInt8 => Value.string ⟨s.toArray⟩) W (hsi.ext (hex.trans e)) (by simp) (row_one _) (H5.out k) hni)
     have Hm := Lib.hid hmix
     have HoV := Lib.hid hoV
     have HoE := Lib.hid hoE
     have Ha := Lib.hid ha
     have Hz := Lib.hid hz
     have Hex := Lib.hid hex
     obtain ⟨_, _, _, _, k4, la4⟩ := ha.cells
     clear hmix hoV hoE hz hgs hsi hni hvi
     go_upto_region 6 with (fail)
     generalize hL : a.ivs.getD k [] = L at HC hgc
     have HL := Lib.hid hL
     clear hL
     refine wp_region_mk 9 (Ext.refl wr) (by kernel_rfl) (by kernel_rfl) (by kernel_rfl) ?_
     simp only [List.take_succ_cons, List.take_zero, List.take_nil, List.drop_succ_cons, List.drop_zero, List.drop_nil, List.map_cons, List.map_nil]
     repeat (first
       | (refine wpML_move _ _ rfl (by first | exact .inl rfl | exact .inr rfl) rfl (by first | exact Is.stable _ | exact AppF.stable _ | exact WrF.stable _ | exact PtrF.stable _ _ | exact IfcF.stable (Fresh.stable _ _ _) _ | exact PairF.stable (RowF.stable _ _ _ _) _ | exact RowF.stable _ _ _ _ | exact Fresh.stable _ _ _) ?_
          simp only [setL, List.set_cons_succ, List.set_cons_zero, List.getD_cons_succ, List.getD_cons_zero])
       | (refine wpML_moveC _ rfl (by first | exact .inl rfl | exact .inr rfl) ?_
          simp only [setL, List.set_cons_succ, List.set_cons_zero])
       | (apply wpML_det rfl
          · intro a w' he hr K hK
            simp [Reads, Oper.looksAt, Op.operands, Call.operands, factAt, Is] at hr
            have hx := he.cell
            go_simp
            try go_bits
            try (rw [if_neg (by omega)]; go_simp)
            first
              | exact hK _ (Ext.refl _)
          simp only [setL, List.set_cons_succ, List.set_cons_zero])
       | (refine wpML_fact (OwnF 9 wr.heap.size 1 L.length (L.map fun s : List UInt8 => Value.string ⟨s.toArray⟩)) (OwnF.stable _ _ _ _ _) rfl ?_ ?_
          · intro a w' he hr K hK
            simp [Reads, Oper.looksAt, Op.operands, Call.operands, factAt, Is] at hr
            go_simp
            refine (HC.out _ he).mono ?_
            rintro e w'' ⟨he', v, rfl, ho'⟩
            obtain ⟨q', c', rfl⟩ := own_slice ho'
            exact hK _ _ he' ⟨q', c', rfl, own_le ho' he.size⟩
          simp only [setL, List.set_cons_succ, List.set_cons_zero])
       | (apply wpML_det rfl
          · intro a w' he hr K hK
            simp [Reads, Oper.looksAt, Op.operands, Call.operands, factAt, Fresh] at hr
            obtain ⟨b, hr1, hr2⟩ := hr
            go_simp
            exact hK _ (Ext.refl _)
          simp only [setL, List.set_cons_succ, List.set_cons_zero]))
     intro w2 he2
     repeat (first | with_reducible refine rest_is _ _ _ _ ?_ | (with_reducible refine rest_fact _ _ _ _ ?_; intro _ _) | with_reducible refine rest_end _ _ ?_)
     simp only [List.reverse_cons, List.reverse_nil, List.nil_append, List.cons_append]
     rename_i xv hxv
     obtain ⟨q5, c5, rfl, ho5⟩ := hxv
     have HoV2 := own_ext HoV.out he2
     obtain ⟨g', hq, hg0', hgl', hgf', hgc', hgs'⟩ := own_set HoV2 k hlt
     simp only [Option.some.injEq, Addr.mk.injEq, and_true] at hq
     subst hq
     have HSx := Lib.hid (hgs' (.slice q5 L.length c5)).1
     clear hgs'
     obtain ⟨g2, cu, hq, _, hbg, _⟩ := own_parts HoV2 (by omega)
     simp only [Option.some.injEq, Addr.mk.injEq, and_true] at hq
     subst hq
     have Hc := Lib.hid (show Chg g w2 (w2.setCell ⟨g, k, none⟩ (.slice q5 L.length c5)) from Chg.setCell)
     have Hbg := Lib.hid hbg
     have Ha2 := Lib.hid (Ha.out.ext he2)
     have Hne := Lib.hid (blk_ne Ha2.out hbg (by decide))
     have Hz2 := Lib.hid (he2.blk _ _ Hz.out)
     have Hne2 := Lib.hid (blk_ne Hz2.out hbg (by decide))
     have HoE2 := Lib.hid (own_ext HoE.out he2)
     have Hex2 := Lib.hid (Hex.out.trans he2)
     have Hst := Lib.hid (Hm.out.step hlt Hex.out.size he2 (by rw [HL.out]; exact ho5) hbg Hc.out)
     clear hbg HoV2 he2 ho5
     go_wp2_with fail
     go_roundw
     case rel => exact ⟨k + 1, by omega, by go_num, Hc.out.ext Hex2.out hg0', Hc.out.blk Ha2.out Hne.out, Hc.out.blk Hz2.out Hne2.out, own_chgT HoE2.out (by decide) Hbg.out Hc.out, _, HSx.out, Hst.out⟩
     case measure => simp [intOf]; omega
   · have hltI : decide ((k : Int) < a.ivs.length) = false := by simp; omega
     have hkn : k = a.ivs.length := by omega
     have Hx := Lib.hid (And.intro hex (And.intro hoE (And.intro hoV hmix)))
     go_wp2_with (first | (refine wpList_row (o := ⟨some 31, _, _, _, _, _⟩) rfl 29 (.tmp 1) rfl _ rfl _ _ _ ha arDesc rfl arSize ?_) | (refine wpList_put rfl 29 (.tmp 2) (.tmp 31) rfl _ (arC a q1 c1 q3 c3) rfl rfl _ _ hz arSize rfl (ar_one a q1 c1 q3 c3) ?_; intro w7 hz7 hc7))
     obtain ⟨hx7, hoE7, hoV7, hm7⟩ := Hx.out
     exact bodyPost_ret (results_row0 Tryz.results57 _ _ _ _ _ _ rfl hz7 arDesc rfl arSize) rfl ⟨hc7.ext hx7 (by omega), q1, c1, q3, c3, vs, rfl, own_chgT hoE7 (by decide) hz hc7, own_chgT hoV7 (by decide) hz hc7, ⟨hm7.len, fun i hi => own_chgT (hm7.own i (by omega)) (by decide) hz hc7, fun i j g hij hj => hm7.apart i j g hij (by omega)⟩⟩
theorem CloneA_any (a : Ar) (q : Option Addr) (c : Nat) (p : Option Addr) (m : Nat) (w : World) (hv : ArV w a q c p m) (h1 : 0 < a.nd.ents.length) (h2 : 0 < a.ivs.length) (h3 : a.nd.ents.length ≤ 1000000) (h4 : a.ivs.length ≤ 1000000) (h5 : ∀ i, (a.ivs.getD i []).length ≤ 1000000) :
   Calls Tryz.prog 57 #[.agg (arC a q c p m)] w (CloneOut a w) := CloneA_anyW a q c p m w hv.x h1 h2 h3 h4 h5
end Go.Proofs.YtifmbcjbccedfaaGreatDoor
namespace Go.Proofs.YtifmbcjbccedfaaGreatDoor
open Go.RowKit Dsd
set_option maxRecDepth 100000 in
theorem NewA_any (x : Int) (w : World) (hx : isBaseB x = true) : Calls Tryz.prog 24 #[.int .i64 x] w fun e w' => Ext w w' ∧ ∃ q c p m, e = .returned (.agg (arC (newA x) q c p m)) ∧ ArV w' (newA x) q c p m := by
 unfold isBaseB at hx
 simp only [Bool.and_eq_true, decide_eq_true_eq] at hx
 obtain ⟨h1, h2⟩ := hx
 go_enter Tryz.func24, Tryz.ntmps24
 go_wp2
 have hA := Blk.new w (.cells #[.int .i64 x, .int .i64 0, .int .i64 0, .slice (some ⟨w.heap.size + 1, 0, none⟩) 1 1, .slice (some ⟨w.heap.size + 1 + 1, 0, none⟩) 1 1] 29)
 generalize hw1 : w.alloc (.cells #[.int .i64 x, .int .i64 0, .int .i64 0, .slice (some ⟨w.heap.size + 1, 0, none⟩) 1 1, .slice (some ⟨w.heap.size + 1 + 1, 0, none⟩) 1 1] 29) = w1 at hA
 have e1 : w.heap.size + 1 = w1.heap.size := by rw [← hw1]; simp
 have hx1 : Ext w w1 := by rw [← hw1]; exact Ext.alloc _ _
 have hB := Blk.new w1 (.cells #[.string ⟨#[]⟩, .int .i64 (x + 1)] 63)
 generalize hw2 : w1.alloc (.cells #[.string ⟨#[]⟩, .int .i64 (x + 1)] 63) = w2 at hB
 have e2 : w.heap.size + 1 + 1 = w2.heap.size := by rw [← hw2, e1]; simp
 have hx2 : Ext w1 w2 := by rw [← hw2]; exact Ext.alloc _ _
 have hC := Blk.new w2 (.cells #[.slice none 0 0] 30)
 have hx3 := Ext.alloc w2 (.cells #[.slice none 0 0] 30)
 generalize w2.alloc (.cells #[.slice none 0 0] 30) = w3 at *
 rw [← e2] at hC
 rw [← e1] at hB
 exact bodyPost_ret (results_row0 Tryz.results24 _ _ _ _ (arC (newA x) (some ⟨w.heap.size + 1, 0, none⟩) 1 (some ⟨w.heap.size + 1 + 1, 0, none⟩) 1) _ rfl (hx3.blk _ _ (hx2.blk _ _ hA)) arDesc rfl arSize) rfl
   ⟨(hx1.trans hx2).trans hx3, _, _, _, _, rfl, blk_cells (ys := entCells [([], x + 1)]) (hx3.blk _ _ hB), ⟨[.slice none 0 0], blk_cells (ys := [.slice none 0 0]) hC, rfl, fun i hi => by
     have : i = 0 := by simp [newA] at hi; omega
     subst this
     exact ⟨none, 0, rfl, .inl rfl, Nat.le_refl 0, by decide, (fun _ => ⟨rfl, rfl⟩), Typ.nil _ _⟩⟩, Nat.le_refl 1, Nat.le_refl 1, by decide, Typ.of_blk (hx3.blk _ _ hB), Typ.of_blk hC⟩
end Go.Proofs.YtifmbcjbccedfaaGreatDoor
namespace Dsd
open Go
theorem cmp_neg : ∀ (a b : List UInt8), decide (Lib.compareBytes a b < 0) = bl a b
 | [], [] => rfl
 | [], _ :: _ => rfl
 | _ :: _, [] => rfl
 | a :: x, b :: y => by
   rw [bl_cons, Lib.compareBytes]
   by_cases h1 : a < b
   · rw [if_pos h1, decide_eq_true h1]; rfl
   · rw [if_neg h1, decide_eq_false h1, Bool.false_or]
     by_cases h2 : b < a
     · rw [if_pos h2]
       have : (a == b) = false := by
         rw [beq_eq_false_iff_ne]; intro e; subst e; exact h1 h2
       rw [this]; rfl
     · rw [if_neg h2]
       have : (a == b) = true := by
         rw [beq_iff_eq]
         apply UInt8.toNat_inj.1
         rw [UInt8.lt_iff_toNat_lt] at h1 h2
         omega
       rw [this, Bool.true_and]
       exact cmp_neg x y
theorem cmp_zero : ∀ (a b : List UInt8), (Lib.compareBytes a b == 0) = (a == b)
 | [], [] => rfl
 | [], _ :: _ => rfl
 | _ :: _, [] => rfl
 | a :: x, b :: y => by
   rw [Lib.compareBytes]
   by_cases h1 : a < b
   · rw [if_pos h1]
     have : (a :: x == b :: y) = false := by
       rw [beq_eq_false_iff_ne]; intro e; injection e with e _; subst e; exact absurd h1 (UInt8.lt_irrefl a)
     rw [this]; rfl
   · rw [if_neg h1]
     by_cases h2 : b < a
     · rw [if_pos h2]
       have : (a :: x == b :: y) = false := by
         rw [beq_eq_false_iff_ne]; intro e; injection e with e _; subst e; exact h1 h2
       rw [this]; rfl
     · rw [if_neg h2, cmp_zero x y]
       have e : a = b := by
         apply UInt8.toNat_inj.1
         rw [UInt8.lt_iff_toNat_lt] at h1 h2
         omega
       subst e
       simp
end Dsd
namespace Go.Proofs.YtifmbcjbccedfaaGreatDoor
open Go.RowKit Dsd
set_option maxHeartbeats 1000000 in
set_option maxRecDepth 100000 in
theorem CmpS_any (a b : List UInt8) (w : World) : Calls Tryz.prog 150 #[.string ⟨a.toArray⟩, .string ⟨b.toArray⟩] w fun e w' => e = .returned (.int .i64 (Lib.compareBytes a b)) ∧ w' = w := by
 go_enter Tryz.func150, Tryz.ntmps150
 go_wp2
 rw [run_callFunc_extern Tryz.func170 (by kernel_rfl) (by kernel_rfl) (by kernel_rfl) (e := Extern.BytealgCompare.compare) (by kernel_rfl), Lib.run_compareString]
 simp only [Result.andThen]
 rw [Oper.upon_value]
 go_wp2
 go_ret
 exact ⟨rfl, rfl⟩
set_option maxRecDepth 100000 in
theorem Compare_any (a b : List UInt8) (w : World) : Calls Tryz.prog 110 #[.string ⟨a.toArray⟩, .string ⟨b.toArray⟩] w fun e w' => e = .returned (.int .i64 (Lib.compareBytes a b)) ∧ w' = w := by
 have H := Lib.hid (CmpS_any a b)
 go_enter Tryz.func110, Tryz.ntmps110
 go_wp2_with (go_at_call 150; refine (H.out _).mono ?_; rintro e w1 ⟨rfl, rfl⟩)
 go_ret
 exact ⟨rfl, rfl⟩
set_option maxRecDepth 100000 in
theorem place1_any (d : DS) (s k : List UInt8) (db : Nat) (hd : keyedB d = true) (hs : recB d s = true) (w : World) (hb : DsAt w db d) :
   Calls Tryz.prog 109 #[.string ⟨s.toArray⟩, .string ⟨k.toArray⟩, .pointer (some ⟨db, 0, none⟩)] w fun e w' => e = .returned (.int .i64 (Lib.compareBytes (keyD d s) k)) ∧ Ext w w' := by
 have HK := Lib.hid (keyOf_any d s hd hs)
 have HC := Lib.hid (Compare_any (keyD d s) k)
 go_enter Tryz.func109, Tryz.ntmps109
 go_wp2_with (first | (refine wpList_ds rfl (.tmp 2) rfl _ rfl d hb ?_) | (go_at_call 40; refine (HK.out _).mono ?_; rintro e w1 ⟨rfl, he1⟩) | (go_at_call 110; refine (HC.out _).mono ?_; rintro e w2 ⟨rfl, rfl⟩))
 go_ret
 exact ⟨rfl, he1⟩
set_option maxRecDepth 100000 in
set_option maxHeartbeats 1000000 in
theorem Search_any (d : DS) (q : Option Addr) (c : Nat) (L : Recs) (k : List UInt8) (db : Nat) (w : World) (hd : keyedB d = true) (hr : ∀ s ∈ L, recB d s = true) (hI : Inc d L) (hs : Strs w q L) (hl : L.length ≤ 1000000) (hb : DsAt w db d) :
   Calls Tryz.prog 108 #[.slice q L.length c, .string ⟨k.toArray⟩, .func (.func 109) #[] #[.pointer (some ⟨db, 0, none⟩)]] w fun e w' => e = .returned (.tuple #[.int .i64 (posL d k L : Nat), .bool (hitL d k L)]) ∧ Ext w w' := by
 have Hs := Lib.hid hs
 have HP := Lib.hid (fun i (hi : i < L.length) W (e : Ext w W) => place1_any d (L.getD i []) k db hd (hr _ (getD_mem hi)) W (hb.ext e))
 have HI := Lib.hid hI
 clear hs hr hI hb
 go_enter Tryz.func108, Tryz.ntmps108
 go_wp2_with fail
 obtain ⟨wo, rfl⟩ : ∃ wo : World, wo = w := ⟨_, rfl⟩
 go_loopw [9, 10] (fun i j wr => ∃ lo hi : Nat, lo ≤ hi ∧ hi ≤ L.length ∧ i = .int .i64 lo ∧ j = .int .i64 hi ∧ (∀ t, t < lo → bl (keyD d (L.getD t [])) k = true) ∧ (∀ t, hi ≤ t → t < L.length → bl (keyD d (L.getD t [])) k = false) ∧ Ext wo wr) (fun i j _ => (intOf j).toNat - (intOf i).toNat)
 case atStart => exact ⟨0, L.length, Nat.zero_le _, Nat.le_refl _, rfl, rfl, fun t ht => absurd ht (Nat.not_lt_zero _), fun t h1 h2 => absurd h2 (by omega), Ext.refl _⟩
 case round =>
   obtain ⟨lo, hi, hlh, hhl, rfl, rfl, hlo, hhi, hext⟩ := hrel
   have HLo := Lib.hid hlo
   have HHi := Lib.hid hhi
   have Hext := Lib.hid hext
   clear hlo hhi
   by_cases hlt : lo < hi
   · have hltI : (lo : Int) < (hi : Int) := by omega
     have hm1 : (lo + hi) / 2 < L.length := by omega
     have hm2 : lo ≤ (lo + hi) / 2 ∧ (lo + hi) / 2 < hi := by omega
     obtain ⟨b, off, rfl, hgb, hc⟩ := (Hs.out.ext hext).at _ hm1
     have hcm := hc _ hm1
     have hp := HP.out _ hm1 _ hext
     have HLT : Hid (bl (keyD d (L.getD ((lo + hi) / 2) [])) k = true → ∀ t, t < (lo + hi) / 2 + 1 → bl (keyD d (L.getD t [])) k = true) := Lib.hid (fun h t ht => by
       by_cases e : t = (lo + hi) / 2
       · rw [e]; exact h
       · exact bl_trans (inc_lt HI.out (by omega) hm1) h)
     have HGE : Hid (bl (keyD d (L.getD ((lo + hi) / 2) [])) k = false → ∀ t, (lo + hi) / 2 ≤ t → t < L.length → bl (keyD d (L.getD t [])) k = false) := Lib.hid (fun h t ht htl => by
       by_cases e : t = (lo + hi) / 2
       · rw [e]; exact h
       · cases h2 : bl (keyD d (L.getD t [])) k with
         | false => rfl
         | true => rw [bl_trans (inc_lt HI.out (by omega) htl) h2] at h; cases h)
     have HM : Hid (((lo : Int) + hi) / 2 = (((lo + hi) / 2 : Nat) : Int)) := Lib.hid (by omega)
     generalize L.getD ((lo + hi) / 2) [] = x at hcm hp HLT HGE
     have hcn := cmp_neg (keyD d x) k
     generalize keyD d x = kx at hcn hp HLT HGE
     have HPx := Lib.hid hp
     clear hp hc
     have HX := Lib.hid (And.intro hm1 hm2)
     clear hm1 hm2 hltI
     have hltI : (lo : Int) < (hi : Int) := by omega
     have Hcm := Lib.hid hcm
     clear hcm
     go_upto_region 5 with (fail)
     rw [HM.out]
     have hcm := Hcm.out
     obtain ⟨hm1, hm2, hm3⟩ := HX.out
     clear Hcm HX HM
     generalize (lo + hi) / 2 = mid at *
     have hmI : (mid : Int) < (L.length : Int) := by omega
     cases hb : bl kx k
     · rw [hb] at hcn
       have HG := Lib.hid (HGE.out hb)
       clear HGE HLT hb
       go_wp2_with (go_at_call 109; refine HPx.out.mono ?_; rintro e w1 ⟨rfl, he1⟩)
       go_roundw
       case rel => exact ⟨lo, mid, by omega, by omega, rfl, rfl, HLo.out, HG.out, Hext.out.trans he1⟩
       case measure => simp [intOf]; omega
     · rw [hb] at hcn
       have HG := Lib.hid (HLT.out hb)
       clear HGE HLT hb
       go_wp2_with (go_at_call 109; refine HPx.out.mono ?_; rintro e w1 ⟨rfl, he1⟩)
       go_roundw
       case rel => exact ⟨mid + 1, hi, by omega, hhl, by go_num, rfl, HG.out, HHi.out, Hext.out.trans he1⟩
       case measure => simp [intOf]; omega
   · have hltI : decide ((lo : Int) < (hi : Int)) = false := by simp; omega
     have hEq : lo = hi := by omega
     subst hEq
     have HPos : Hid (posL d k L = lo) := Lib.hid (posL_is hhl HLo.out (fun h => HHi.out lo (Nat.le_refl _) h))
     by_cases hln : lo < L.length
     · have hlnI : decide ((lo : Int) < (L.length : Int)) = true := decide_eq_true (by omega)
       obtain ⟨b, off, rfl, hgb, hc⟩ := (Hs.out.ext hext).at _ hln
       have hcm := hc _ hln
       have hp := HP.out _ hln _ hext
       have HH : Hid (hitL d k L = (keyD d (L.getD lo []) == k)) := Lib.hid (by rw [hitL_is (by rw [HPos.out]; exact hln), HPos.out])
       generalize L.getD lo [] = x at hcm hp HH
       have hcn := cmp_zero (keyD d x) k
       generalize keyD d x = kx at hcn hp HH
       have HPx := Lib.hid hp
       clear hp hc
       go_wp2_with (go_at_call 109; refine HPx.out.mono ?_; rintro e w1 ⟨rfl, he1⟩)
       go_ret2
       exact ⟨by rw [HPos.out, HH.out, ← hcn]; rfl, Hext.out.trans he1⟩
     · have hlnI : decide ((lo : Int) < (L.length : Int)) = false := decide_eq_false (by omega)
       have HH : Hid (hitL d k L = false) := Lib.hid (hitL_no (by rw [HPos.out]; exact hln))
       go_wp2
       go_ret2
       exact ⟨by rw [HPos.out, HH.out]; rfl, Hext.out⟩
end Go.Proofs.YtifmbcjbccedfaaGreatDoor
namespace Go.Proofs.YtifmbcjbccedfaaGreatDoor
open Go.RowKit Dsd
set_option maxRecDepth 100000 in
set_option maxHeartbeats 1000000 in
theorem place_any (d : DS) (a : Ar) (q : Option Addr) (c : Nat) (p : Option Addr) (m : Nat) (k : List UInt8) (w : World) (s : ASpec d a) (hv : ArV w a q c p m) :
   Calls Tryz.prog 58 #[.agg #[.int .i64 d.id, .int .i64 d.org, .int .i64 d.format, .int .i64 d.length, .int .i64 d.block, .int .i64 d.keyAt, .int .i64 d.keyLength, .int .i64 d.interval, .int .i64 d.area, .int .i64 d.freeInterval, .int .i64 d.freeArea, .int .i64 d.base, .int .i64 d.altAt, .int .i64 d.altLength, .bool d.unique, .int .i64 d.cls, .string ⟨d.volume.toArray⟩, .string ⟨d.owner.toArray⟩, .int .i64 d.created, .int .i64 d.expires, .bool d.archived], .agg (arC a q c p m), .string ⟨k.toArray⟩] w fun e w' => e = .returned (.tuple #[.int .i64 (findNd a.nd.ents k : Nat), .int .i64 (posL d k (a.ivs.getD (findNd a.nd.ents k) []) : Nat), .bool (hitL d k (a.ivs.getD (findNd a.nd.ents k) []))]) ∧ Ext w w' := by
 have hil := (s.at k).lt
 have hl120 := (node_iff.1 s.node).l2
 have hne := s.ne
 have HF := Lib.hid (fun W (e : Ext w W) => FindN_any q c a.nd k W (hv.ents.ext e) (by omega))
 obtain ⟨hf, hE, hIv, hInc⟩ := s.iv hil
 have hsm := (fits_small hf).1
 have hd := s.keyed
 have Hv := Lib.hid hv
 have hil2 : findNd a.nd.ents k < a.ivs.length := hil
 unfold ndV at HF
 clear s hv hf hE
 generalize findNd a.nd.ents k = i at *
 generalize hL : a.ivs.getD i [] = L at *
 go_enter Tryz.func58, Tryz.ntmps58
 go_upto_region 1 with (fail)
 refine wp_name (fun w0 => Ext w w0 ∧ DsAt w0 w.heap.size d ∧ ArAt w0 (w.heap.size + 1) a q c p m) (ds_ar w d a q c p m) ?_
 rintro w0 ⟨he0, hd0, ha0⟩
 obtain ⟨e0, e1, e2, e3, e4, la⟩ := ha0.cells
 go_upto_region 2 with (first
   | (refine wpList_part (o := ⟨some 13, _, _, _, _, _⟩) rfl 26 (.tmp 12) rfl (w.heap.size + 1) 1 rfl _ (arC a q c p m) #[.int .i64 a.nd.level, .int .i64 a.nd.next, .slice q a.nd.ents.length c] _ ha0 (ar_part a q c p m) ndDesc rfl ndSize ?_)
   | (go_at_call 107; refine (HF.out _ he0).mono ?_; rintro e w1 ⟨hr1, _, he1⟩; obtain rfl := hr1 hne))
 have ha1 := ha0.ext he1
 have Hd1 := Lib.hid (hd0.ext he1)
 have Hx1 := Lib.hid (he0.trans he1)
 obtain ⟨ib, io, iv, rfl, hib, hcell, hrow⟩ := (Hv.out.ivs.ext Hx1.out).at i hil
 rw [hL] at hrow
 obtain ⟨qi, ci, rfl, hs, hr1, hr2, hr3⟩ := hrow
 clear e0 e1 e2 e3 e4 la
 obtain ⟨e0, e1, e2, e3, e4, la⟩ := ha1.cells
 have HS := Lib.hid (Search_any d qi ci L k w.heap.size w1 hd (fun s hs => (hIv s hs).1) hInc hs (by omega) Hd1.out)
 have hiI : (i : Int) < (a.ivs.length : Int) := by omega
 clear hIv hInc hs hr1 hr2 hr3 hd0 ha0 ha1 he0 he1 HF hL
 go_wp2_with (go_at_call 108; refine HS.out.mono ?_; rintro e w2 ⟨rfl, he2⟩)
 go_ret3
 exact ⟨rfl, Hx1.out.trans he2⟩
end Go.Proofs.YtifmbcjbccedfaaGreatDoor
