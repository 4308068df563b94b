/- A part of the proof. -/
import Derived.Test.YtifmbcjbccedfaaGreatDoorAN
import Derived.Test.YtifmbcjbccedfaaGreatDoorMG

set_option linter.unusedSimpArgs false
set_option linter.unusedVariables false
namespace Dsd
def usedG (L : List Ent) (k : Nat) : Int → Option Bool := fun x => if x ∈ (L.take k).map (·.2) then some true else none
theorem usedG_zero (L : List Ent) : usedG L 0 = fun _ => none := by funext x; simp [usedG]
theorem usedG_step {L : List Ent} {k : Nat} (h : k < L.length) : updG (usedG L k) (entAt L k).2 (some true) = usedG L (k + 1) := by
 funext x
 have e : entAt L k = L[k] := by simp [entAt, List.getD, h]
 unfold updG usedG
 rw [List.take_succ_eq_append_getElem h, List.map_append, e]
 simp only [List.mem_append, List.map_cons, List.map_nil, List.mem_singleton]
 by_cases h1 : x = L[k].2
 · rw [if_pos h1, if_pos (.inr h1)]
 · rw [if_neg h1]
   by_cases h2 : x ∈ (L.take k).map (·.2)
   · rw [if_pos h2, if_pos (.inl h2)]
   · rw [if_neg h2, if_neg (fun h => h.elim h2 h1)]
theorem usedG_new {L : List Ent} {k : Nat} (h : k < L.length) (hn : (L.map (·.2)).Nodup) : (usedG L k (entAt L k).2).getD false = false := by
 have e : entAt L k = L[k] := by simp [entAt, List.getD, h]
 unfold usedG
 rw [if_neg]
 · rfl
 · rw [e]
   intro hm
   rw [← List.take_append_drop k L, List.map_append, List.nodup_append] at hn
   exact hn.2.2 _ hm _ (by rw [List.drop_eq_getElem_cons h]; exact List.mem_cons_self ..) rfl
end Dsd
namespace Go.Proofs.YtifmbcjbccedfaaGreatDoor
open Go.RowKit Dsd
theorem arDesc : Tryz.prog.underlying 29 = some (.struct (Tryz.prog.fieldsOf 29)) := by kernel_rfl
theorem arSize : (Tryz.prog.info? 29).map (·.size) = some 5 := by kernel_rfl
theorem ar_part (a : Ar) (q : Option Addr) (c : Nat) (p : Option Addr) (m : Nat) : ∀ j (_ : j < (#[.int .i64 a.nd.level, .int .i64 a.nd.next, .slice q a.nd.ents.length c] : Array Value).size), (arC a q c p m)[1 + j]? = some (#[.int .i64 a.nd.level, .int .i64 a.nd.next, .slice q a.nd.ents.length c] : Array Value)[j]
 | 0, _ => rfl
 | 1, _ => rfl
 | 2, _ => rfl
noncomputable def usedM : MapG Tryz.prog 116 3 4 Int Bool := intBool (by kernel_rfl) (by kernel_rfl) (by kernel_rfl) (fun w => by kernel_rfl)
theorem wpList_used_get {w : World} {mb n : Nat} {g : Int → Option Bool} {sz : Nat} {ops : Array Oper} {rest : List Oper} {o : Oper} {a : Act} {Q : Exit → Act → World → Prop} (hg : Region.wanted o (yielded ops a.tmps) = true) (m x : Operand) (hop : o.op = Op.lookup 116 m x false) (hm : a.eval m = .map (some mb)) (h : MapAt usedM w mb n g sz) (y : Int) (hx : a.eval x = .int .i64 y) (hy : (Lit.int .i64 y).wf = true) (v : Bool) (hv : (g y).getD false = v)
   (hK : wpList Tryz.prog ops Q rest (a.put o.dst (.bool v)) w) : wpList Tryz.prog ops Q (o :: rest) a w :=
 wpList_mapG_get hg m x hop hm h y hx hy v hv hK
theorem wpList_used_put {w : World} {mb n : Nat} {g : Int → Option Bool} {sz : Nat} {ops : Array Oper} {rest : List Oper} {o : Oper} {a : Act} {Q : Exit → Act → World → Prop} (hg : o.guard = none) (m x : Operand) (hop : o.op = Op.mapUpdate 116 m x (.const (.bool true))) (hm : a.eval m = .map (some mb)) (h : MapAt usedM w mb n g sz) (hn : n < maxLen) (y : Int) (hx : a.eval x = .int .i64 y) (hy : (Lit.int .i64 y).wf = true)
   (hK : ∀ w', MapAt usedM w' mb (n + 1) (updG g y (some true)) (if (g y).isSome then sz else sz + 1) → Chg mb w w' → wpList Tryz.prog ops Q rest (a.put o.dst undef) w') : wpList Tryz.prog ops Q (o :: rest) a w :=
 wpList_mapG_put hg m x _ hop hm h hn y hx hy true rfl trivial hK
def ArAt (w : World) (b : Nat) (a : Ar) (q : Option Addr) (c : Nat) (p : Option Addr) (m : Nat) : Prop := Blk w b (.cells (arC a q c p m) 29)
theorem ArAt.ext {w w' : World} {b : Nat} {a : Ar} {q : Option Addr} {c : Nat} {p : Option Addr} {m : Nat} (h : ArAt w b a q c p m) (e : Ext w w') : ArAt w' b a q c p m := e.blk _ _ h
theorem ArAt.cells {w : World} {b : Nat} {a : Ar} {q : Option Addr} {c : Nat} {p : Option Addr} {m : Nat} (h : ArAt w b a q c p m) :
   w.cell? ⟨b, 0, none⟩ = some (.int .i64 a.base) ∧ w.cell? ⟨b, 1, none⟩ = some (.int .i64 a.nd.level) ∧ w.cell? ⟨b, 2, none⟩ = some (.int .i64 a.nd.next) ∧ w.cell? ⟨b, 3, none⟩ = some (.slice q a.nd.ents.length c) ∧ w.cell? ⟨b, 4, none⟩ = some (.slice p a.ivs.length m) ∧ b < w.heap.size :=
 ⟨Blk.val h 0 _ rfl, Blk.val h 1 _ rfl, Blk.val h 2 _ rfl, Blk.val h 3 _ rfl, Blk.val h 4 _ rfl, Blk.lt h⟩
theorem ds_ar (w : World) (d : DS) (a : Ar) (q : Option Addr) (c : Nat) (p : Option Addr) (m : Nat) : Ext w ((w.alloc (.cells #[.int .i64 d.id, .int .i64 d.org, .int .i64 d.format, .int .i64 d.length, .int .i64 d.block, .int .i64 d.keyAt, .int .i64 d.keyLength, .int .i64 d.interval, .int .i64 d.area, .int .i64 d.freeInterval, .int .i64 d.freeArea, .int .i64 d.base, .int .i64 d.altAt, .int .i64 d.altLength, .bool d.unique, .int .i64 d.cls, .string ⟨d.volume.toArray⟩, .string ⟨d.owner.toArray⟩, .int .i64 d.created, .int .i64 d.expires, .bool d.archived] 23)).alloc (.cells (arC a q c p m) 29)) ∧
   DsAt ((w.alloc (.cells #[.int .i64 d.id, .int .i64 d.org, .int .i64 d.format, .int .i64 d.length, .int .i64 d.block, .int .i64 d.keyAt, .int .i64 d.keyLength, .int .i64 d.interval, .int .i64 d.area, .int .i64 d.freeInterval, .int .i64 d.freeArea, .int .i64 d.base, .int .i64 d.altAt, .int .i64 d.altLength, .bool d.unique, .int .i64 d.cls, .string ⟨d.volume.toArray⟩, .string ⟨d.owner.toArray⟩, .int .i64 d.created, .int .i64 d.expires, .bool d.archived] 23)).alloc (.cells (arC a q c p m) 29)) w.heap.size d ∧ ArAt ((w.alloc (.cells #[.int .i64 d.id, .int .i64 d.org, .int .i64 d.format, .int .i64 d.length, .int .i64 d.block, .int .i64 d.keyAt, .int .i64 d.keyLength, .int .i64 d.interval, .int .i64 d.area, .int .i64 d.freeInterval, .int .i64 d.freeArea, .int .i64 d.base, .int .i64 d.altAt, .int .i64 d.altLength, .bool d.unique, .int .i64 d.cls, .string ⟨d.volume.toArray⟩, .string ⟨d.owner.toArray⟩, .int .i64 d.created, .int .i64 d.expires, .bool d.archived] 23)).alloc (.cells (arC a q c p m) 29)) (w.heap.size + 1) a q c p m :=
 ⟨(Ext.alloc _ _).trans (Ext.alloc _ _), Blk.alloc (Blk.new w _) _, Blk.new1 _ _ _ (by simp)⟩
set_option maxRecDepth 100000 in
set_option maxHeartbeats 2000000 in
theorem shaped_anyW (d : DS) (a : Ar) (q : Option Addr) (c : Nat) (p : Option Addr) (m : Nat) (w : World) (s : ASpec d a) (hv : ArW w a q c p m) :
   Calls Tryz.prog 32 #[.agg #[.int .i64 d.id, .int .i64 d.org, .int .i64 d.format, .int .i64 d.length, .int .i64 d.block, .int .i64 d.keyAt, .int .i64 d.keyLength, .int .i64 d.interval, .int .i64 d.area, .int .i64 d.freeInterval, .int .i64 d.freeArea, .int .i64 d.base, .int .i64 d.altAt, .int .i64 d.altLength, .bool d.unique, .int .i64 d.cls, .string ⟨d.volume.toArray⟩, .string ⟨d.owner.toArray⟩, .int .i64 d.created, .int .i64 d.expires, .bool d.archived], .agg (arC a q c p m)] w fun e w' => e = .returned (.bool true) ∧ Ext w w' := by
 obtain ⟨k1, k2, k3, k4, k5, k6, k7, k8, k9⟩ := keyed_spec s.keyed
 have ns := node_iff.1 s.node
 have HB := Lib.hid (fun W => isBase_any a.base W)
 rw [s.base] at HB
 have HV := Lib.hid (fun W (e : Ext w W) => ValidN_any d.interval q c a.nd W (hv.ents.ext e) (by have := ns.l2; omega))
 have hnf : nodeFits d.interval a.nd = true := by unfold nodeFits; rw [s.size, s.node]; simp [s.fits]
 rw [hnf] at HV
 unfold ndV at HV
 obtain ⟨g1, g2⟩ := pagesB_iff.1 s.pages
 have HG2 := Lib.hid g2
 have HG1 := Lib.hid (fun k (hk : k < a.nd.ents.length) => g1 (entAt a.nd.ents k) (by simp [entAt, List.getD, hk]))
 have hb := s.base
 unfold isBaseB at hb
 simp only [Bool.and_eq_true, decide_eq_true_eq] at hb
 have HP := Lib.hid (fun k (hk : k < a.nd.ents.length) => (entsB_len a.nd.ents [] ns.ents (entAt a.nd.ents k) (by simp [entAt, List.getD, hk])).2)
 have i1 : (a.nd.level != 0) = false := by rw [s.level]; rfl
 have i2 : decide (d.area < (a.nd.ents.length : Int)) = false := decide_eq_false (by have := s.few; omega)
 have hw1 : IntKind.i64.wrap (a.base + d.area) = a.base + d.area := IntWalk.i64_in _ (by omega)
 have hl120 := ns.l2
 have Hents := Lib.hid hv.ents
 obtain ⟨hb1, hb2⟩ := hb
 clear hnf g1 g2 ns s hv k1 k2
 have hmm := @run_makeMap Tryz.prog
 go_enter Tryz.func32, Tryz.ntmps32
 go_upto_region 1 with (fail)
 refine wp_name (fun w0 => Ext w w0 ∧ DsAt w0 w.heap.size d ∧ ArAt w0 (w.heap.size + 1) a q c p m) (ds_ar w d a q c p m) ?_
 rintro w0 ⟨he0, hd0, ha0⟩
 obtain ⟨c0, c1, c2, c3, c4, la⟩ := ha0.cells
 have d7 := Blk.val hd0 7 _ rfl
 have ld := Blk.lt hd0
 go_upto_region 3 with (first
   | (go_at_call 30; refine (HB.out _).mono ?_; rintro e w1 ⟨rfl, rfl⟩)
   | (refine wpList_part (o := ⟨some 16, _, _, _, _, _⟩) rfl 26 (.tmp 15) rfl (w.heap.size + 1) 1 rfl _ (arC a q c p m) #[.int .i64 a.nd.level, .int .i64 a.nd.next, .slice q a.nd.ents.length c] _ ha0 (ar_part a q c p m) ndDesc rfl ndSize ?_)
   | (go_at_call 70; refine (HV.out _ he0).mono ?_; rintro e w2 ⟨rfl, he2⟩; have ha2 := ha0.ext he2; have hd2 := hd0.ext he2; obtain ⟨e0, e1, e2, e3, e4, la2⟩ := ha2.cells; have e8 := Blk.val hd2 8 _ rfl; have ld2 := Blk.lt hd2))
 have Hwx := Lib.hid (he0.trans he2)
 clear c0 c1 c2 c3 c4 d7 la ld
 go_upto_region 5 with (fail)
 refine wp_name (fun w3 => Ext w2 w3 ∧ MapAt usedM w3 w2.heap.size 0 (usedG a.nd.ents 0) 0) ⟨Ext.alloc _ _, by rw [usedG_zero]; exact MapAt.made usedM _⟩ ?_
 rintro w3 ⟨he3, hm3⟩
 have HU := Lib.hid (fun k (hk : k < a.nd.ents.length) => usedG_step hk)
 have HN := Lib.hid (fun k (hk : k < a.nd.ents.length) => usedG_new hk HG2.out)
 have HL := Lib.hid hl120
 have Hda := Lib.hid (And.intro hd2 ha2)
 have Hen2 := Lib.hid (Hents.out.ext Hwx.out)
 clear e0 e1 e2 e3 e4 e8 la2 ld2 hd2 ha2 hmm i1 i2 k3 k4 k5 k6 k7 k8 k9 hb1 hb2 hl120
 generalize a.nd.ents = L at *
 go_loopw [40] (fun i wr => ∃ k : Nat, k ≤ L.length ∧ i = .int .i64 k ∧ (∃ sz, MapAt usedM wr w2.heap.size k (usedG L k) sz) ∧ Ext w2 wr) (fun i _ => L.length - (intOf i).toNat)
 case atStart => exact ⟨0, Nat.zero_le _, rfl, ⟨_, hm3⟩, he3⟩
 case round =>
   obtain ⟨k, hk, rfl, ⟨sz, hM⟩, hex⟩ := hrel
   have Hex := Lib.hid hex
   by_cases hlt : k < L.length
   · have hltI : (k : Int) < L.length := by omega
     obtain ⟨g, off, rfl, hgb, hcc⟩ := (Hen2.out.ext hex).at k hlt
     obtain ⟨hck0, hck1⟩ := hcc k hlt
     have HS1 := Lib.hid (HU.out k hlt)
     have HS2 := Lib.hid (HN.out k hlt)
     have hpg := HP.out k hlt
     obtain ⟨_, hg1, hg2⟩ := HG1.out k hlt
     clear hcc
     generalize entAt L k = x at *
     obtain ⟨bel, pg⟩ := x
     simp only at hck0 hck1 HS1 HS2 hpg hg1 hg2
     unfold pageB at hpg
     simp only [Bool.and_eq_true, decide_eq_true_eq] at hpg
     have hwf : Hid ((Lit.int .i64 pg).wf = true) := Lib.hid (by simp [Lit.wf, IntKind.min, IntKind.max, IntKind.signed, IntKind.bits]; omega)
     have j1 : decide (pg ≤ a.base) = false := decide_eq_false (by omega)
     have j2 : decide (a.base + d.area < pg) = false := decide_eq_false (by omega)
     have HM := Lib.hid hM
     clear hM
     go_upto_region 7 with (fail)
     refine wp_name (fun w4 => Ext wr w4 ∧ Blk w4 wr.heap.size (.cells #[.string ⟨bel.toArray⟩, .int .i64 pg] 63)) ⟨Ext.alloc _ _, Blk.new _ _⟩ ?_
     rintro w4 ⟨he4, hx4⟩
     have hM4 := HM.out.ext he4
     have hd4 := Hda.out.1.ext (Hex.out.trans he4)
     have ha4 := Hda.out.2.ext (Hex.out.trans he4)
     obtain ⟨e0, e1, e2, e3, e4, la4⟩ := ha4.cells
     have e8 := Blk.val hd4 8 _ rfl
     have ld4 := Blk.lt hd4
     have x1 := Blk.val hx4 1 _ rfl
     have lx := Blk.lt hx4
     clear hck0 hck1 hpg hg1 hg2 hgb
     have hl120 := HL.out
     go_wp2_with (first
       | (refine wpList_used_get (o := ⟨some 47, _, _, _, _, _⟩) rfl (.tmp 44) (.tmp 46) rfl rfl hM4 pg rfl hwf.out false HS2.out ?_)
       | (refine wpList_used_put (o := ⟨none, _, _, _, _, _⟩) rfl (.tmp 65) (.tmp 67) rfl rfl hM4 (by have := HL.out; unfold maxLen; omega) pg rfl hwf.out ?_; rw [HS1.out]; intro w5 hM5 hc5; have he5 := Lib.hid (hc5.ext (Hex.out.trans he4) (Nat.le_refl _))))
     go_roundw
     case rel => exact ⟨k + 1, by omega, by go_num, ⟨_, hM5⟩, he5.out⟩
     case measure => simp [intOf]; omega
   · have hltI : decide ((k : Int) < L.length) = false := by simp; omega
     go_wp2
     go_ret
     exact ⟨rfl, Hwx.out.trans hex⟩
end Go.Proofs.YtifmbcjbccedfaaGreatDoor
