/- A part of the proof. -/
import Derived.Test.YtifmbcjbccedfaaGreatDoorAX
import Derived.Test.YtifmbcjbccedfaaGreatDoorANk
import Derived.Test.YtifmbcjbccedfaaGreatDoorBC

set_option linter.unusedSimpArgs false
set_option linter.unusedVariables false
namespace Go.Proofs.YtifmbcjbccedfaaGreatDoor
open Go.RowKit Dsd
noncomputable def wantStr : MapG Tryz.prog 48 9 9 (List UInt8) (List UInt8) := strStr (by kernel_rfl) (by kernel_rfl) (fun w => by kernel_rfl)
theorem opDescA : Tryz.prog.underlying 85 = some (.struct (Tryz.prog.fieldsOf 85)) := by kernel_rfl
theorem opSizeA : (Tryz.prog.info? 85).map (·.size) = some 2 := by kernel_rfl
theorem op_oneA (r : List UInt8) (er : Bool) : (#[.string ⟨r.toArray⟩, .bool er] : Array Value).all (·.oneCell') = true := by simp [Value.oneCell']
theorem wpList_aop {ops : Array Oper} {rest : List Oper} {o : Oper} {a : Act} {w : World} {Q : Exit → Act → World → Prop} (hw : Region.wanted o (yielded ops a.tmps) = true) (x : Operand) (ho : o.op = .load 85 x)
   (g off : Nat) (hx : a.eval x = .pointer (some ⟨g, off, none⟩)) (r : List UInt8) (er : Bool) (h0 : w.cell? ⟨g, off, none⟩ = some (.string ⟨r.toArray⟩)) (h1 : w.cell? ⟨g, off + 1, none⟩ = some (.bool er))
   (h : wpList Tryz.prog ops Q rest (a.put o.dst (.agg #[.string ⟨r.toArray⟩, .bool er])) w) : wpList Tryz.prog ops Q (o :: rest) a w :=
 BigFrame.wpList_want hw fun _ hK => by
   have hl : (loadCells ⟨g, off, none⟩ 2).run Tryz.prog w = .ok #[.string ⟨r.toArray⟩, .bool er] w :=
     run_loadCells_list (P := Tryz.prog) w ⟨g, off, none⟩ [.string ⟨r.toArray⟩, .bool er] (fun j v hv => by
       rw [addr_add]
       rcases j with _ | _ | j
       · simp at hv; subst hv; exact h0
       · simp at hv; subst hv; exact h1
       · simp at hv)
   have hlv : (loadVar 85 ⟨g, off, none⟩).run Tryz.prog w = .ok (.agg #[.string ⟨r.toArray⟩, .bool er]) w := by
     have hi := opSizeA
     cases hq : Tryz.prog.info? 85 with
     | none => simp [hq] at hi
     | some i =>
       have hs : i.size = 2 := by simpa [hq] using hi
       have hagg : (isAgg 85).run Tryz.prog w = .ok true w := by
         unfold isAgg
         rw [Sem.run_bind, run_underlying opDescA w]
         rfl
       simp [loadVar, Sem.run_bind, hagg, Go.sizeOf, typeInfo, hq, hs, hl]
   unfold Oper.wp execOp
   simp only [ho, hx, Instr.loadAt, Instr.sureAddr, Sem.run_bind, Sem.run_pure, Result.andThen_ok, hlv]
   exact hK _ _ h
def NoT (w : World) (b : Nat) (t : TypeId) : Prop := ∀ cs, ¬ Blk w b (.cells cs t)
theorem Typ.chgN {w w' : World} {q : Option Addr} {t : TypeId} {b : Nat} (h : Typ w q t) (hn : NoT w b t) (c : Chg b w w') : Typ w' q t := fun g o hq => by
 obtain ⟨cur, hc⟩ := h g o hq
 refine ⟨cur, c.blk hc fun e => ?_⟩
 subst e
 exact hn _ hc
theorem Cells.chgN {w w' : World} {q : Option Addr} {t : TypeId} {b : Nat} {xs : List Value} (h : Cells w q xs) (ht : Typ w q t) (hn : NoT w b t) (c : Chg b w w') : Cells w' q xs := by
 rcases h with h | ⟨g, o, rfl, hl, hc⟩
 · exact .inl h
 · refine cells_chgO (.inr ⟨g, o, rfl, hl, hc⟩) (fun e => ?_) c
   obtain ⟨cur, h1⟩ := ht g o rfl
   subst e
   exact hn _ h1
theorem RowV.chgN {w w' : World} {v : Value} {L : Recs} {b : Nat} (h : RowV w v L) (hn : NoT w b 9) (c : Chg b w w') : RowV w' v L := by
 obtain ⟨q, k, h1, h2, h3, h4, h5, h6⟩ := h
 exact ⟨q, k, h1, Cells.chgN h2 h6 hn c, h3, h4, h5, h6.chgN hn c⟩
theorem ArV.chgN {w w' : World} {a : Ar} {q : Option Addr} {c : Nat} {p : Option Addr} {m : Nat} {b : Nat} (h : ArV w a q c p m) (hn : ∀ t, NoT w b t) (k : Chg b w w') : ArV w' a q c p m := by
 obtain ⟨vs, g1, g2, g3⟩ := h.ivs
 exact ⟨Cells.chgN h.ents h.te (hn _) k, ⟨vs, Cells.chgN g1 h.tp (hn _) k, g2, fun i hi => (g3 i hi).chgN (hn _) k⟩, h.ec, h.ic, h.im, h.te.chgN (hn _) k, h.tp.chgN (hn _) k⟩
def IsMapB (w : World) (b : Nat) : Prop := ∃ es clock, w.heap[b]? = some (.map es clock)
theorem IsMapB.no {w : World} {b : Nat} (h : IsMapB w b) (t : TypeId) : NoT w b t := fun cs hc => by
 obtain ⟨es, cl, h1⟩ := h
 have := h1.symm.trans hc
 simp at this
theorem IsMapB.ne {w : World} {b g : Nat} {cs : Array Value} {t : TypeId} (h : IsMapB w b) (hc : Blk w g (.cells cs t)) : g ≠ b := fun e => by
 subst e
 exact h.no t cs hc
theorem MapAt.isMap {w : World} {mb n sz : Nat} {g : List UInt8 → Option (List UInt8)} (h : MapAt wantStr w mb n g sz) : IsMapB w mb := by
 obtain ⟨D, ⟨es, clock, hm, _⟩, _⟩ := h
 exact ⟨_, _, hm⟩
def KE : Kills := [(5, [(2, 109)]), (6, [(0, 107)])]
def RE (ab mb : Nat) : Nat → Rel := fun i w w' => if i = 5 then (∃ cs, Blk w ab (.cells cs 29)) ∧ Chg ab w w' else IsMapB w mb ∧ Chg mb w w'
structure StE (db rb : Nat) (d : DS) (a : Ar) (q : Option Addr) (c : Nat) (p : Option Addr) (m : Nat) (w : World) : Prop where
 ds : DsAt w db d
 res : Blk w rb (.cells arZ 29)
 ar : ArV w a q c p m
section
variable {db rb ab mb xb ob n sz : Nat} {d : DS} {a : Ar} {q : Option Addr} {c : Nat} {p : Option Addr} {m : Nat} {g : List UInt8 → Option (List UInt8)} {r : List UInt8} {er : Bool} {w w' : World}
theorem StE.ext (h : StE db rb d a q c p m w) (e : Ext w w') : StE db rb d a q c p m w' := ⟨h.ds.ext e, e.blk _ _ h.res, h.ar.ext e⟩
theorem StE.map (h : StE db rb d a q c p m w) (i : IsMapB w mb) (k : Chg mb w w') : StE db rb d a q c p m w' := ⟨k.blk h.ds (i.ne h.ds), k.blk h.res (i.ne h.res), h.ar.chgN i.no k⟩
theorem StE.area (h : StE db rb d a q c p m w) {cs : Array Value} (i : Blk w ab (.cells cs 29)) (hne : rb ≠ ab) (k : Chg ab w w') : StE db rb d a q c p m w' := ⟨k.blk h.ds (blk_ne h.ds i (by decide)), k.blk h.res hne, h.ar.chgA i (by decide) (by decide) (by decide) k⟩
def PrE (db rb ab mb xb ob n sz : Nat) (d : DS) (a : Ar) (q : Option Addr) (c : Nat) (p : Option Addr) (m : Nat) (g : List UInt8 → Option (List UInt8)) (r : List UInt8) (er : Bool) : Nat → World → Prop := fun i w =>
 if i = 5 then (∃ cs, cs.size = 5 ∧ Blk w ab (.cells cs 29)) ∧ ArAt w xb a q c p m ∧ StE db rb d a q c p m w
 else MapAt wantStr w mb n g sz ∧ Blk w ob (.cells #[.string ⟨r.toArray⟩, .bool er] 85)
def GE (db rb ab mb n sz : Nat) (d : DS) (a : Ar) (q : Option Addr) (c : Nat) (p : Option Addr) (m : Nat) (g : List UInt8 → Option (List UInt8)) : Nat → Nat → Fact := fun i _ x w =>
 if i = 5 then x = .agg (arC a q c p m) ∧ ArAt w ab a q c p m ∧ StE db rb d a q c p m w
 else x = .map (some mb) ∧ MapAt wantStr w mb n g sz
theorem PrE.at5 (h : PrE db rb ab mb xb ob n sz d a q c p m g r er 5 w) : (∃ cs, cs.size = 5 ∧ Blk w ab (.cells cs 29)) ∧ ArAt w xb a q c p m ∧ StE db rb d a q c p m w := by simpa [PrE] using h
theorem PrE.at6 (h : PrE db rb ab mb xb ob n sz d a q c p m g r er 6 w) : MapAt wantStr w mb n g sz ∧ Blk w ob (.cells #[.string ⟨r.toArray⟩, .bool er] 85) := by simpa [PrE] using h
theorem GE.at5 {j : Nat} {x : Value} (h : GE db rb ab mb n sz d a q c p m g 5 j x w) : x = .agg (arC a q c p m) ∧ ArAt w ab a q c p m ∧ StE db rb d a q c p m w := by simpa [GE] using h
theorem GE.at6 {j : Nat} {x : Value} (h : GE db rb ab mb n sz d a q c p m g 6 j x w) : x = .map (some mb) ∧ MapAt wantStr w mb n g sz := by simpa [GE] using h
theorem prok_run {l : List Oper} {N : Nat} (hm : mustB .any l 5 6 = true) (hB : orderB .any l.toArray N = true) : Pre.PrOk .any l.toArray KE (RE ab mb) (PrE db rb ab mb xb ob n sz d a q c p m g r er) := by
 refine ⟨fun i hp w w' he h => ?_, fun i j hp hq hne => ?_⟩
 · unfold PrE at *
   by_cases h5 : i = 5
   · rw [if_pos h5] at h ⊢
     obtain ⟨⟨cs, h1, h2⟩, h3, h4⟩ := h
     exact ⟨⟨cs, h1, he.blk _ _ h2⟩, h3.ext he, h4.ext he⟩
   · rw [if_neg h5] at h ⊢
     exact ⟨h.1.ext he, he.blk _ _ h.2⟩
 · simp [pivB, KE] at hp hq
   rcases hp with rfl | rfl
   · rcases hq with rfl | rfl
     · exact absurd rfl hne
     · exact .inl (mustB_must hB hm)
   · rcases hq with rfl | rfl
     · refine .inr fun w w' c h => ?_
       obtain ⟨h1, h2⟩ := PrE.at6 h
       unfold RE at c
       rw [if_pos rfl] at c
       obtain ⟨⟨cs, hc⟩, k⟩ := c
       unfold PrE
       rw [if_neg (by decide)]
       exact ⟨h1.chg k (h1.not_cells hc), k.blk h2 (blk_ne h2 hc (by decide))⟩
     · exact absurd rfl hne
theorem gok_run {w0 : World} {l : List Oper} (hab : w0.heap.size ≤ ab) (hmb : w0.heap.size ≤ mb) (hm1 : mustB .any l 2 5 = true) (hm2 : mustB .any l 0 6 = true) : GOk l w0 KE (RE ab mb) (GE db rb ab mb n sz d a q c p m g) := by
 refine ⟨fun i w w' h => ?_, fun i j => ?_, fun i j k hk hp hne x w w' h hx => ?_, fun i j hk => ?_⟩
 · unfold RE at h
   split at h
   · exact ⟨h.2.os, h.2.tape, h.2.output, by rw [h.2.size]; exact Nat.le_refl _, fun k hk => h.2.block k (by omega)⟩
   · exact ⟨h.2.os, h.2.tape, h.2.output, by rw [h.2.size]; exact Nat.le_refl _, fun k hk => h.2.block k (by omega)⟩
 · intro v w w' he h
   unfold GE at *
   split
   · rename_i h5; rw [if_pos h5] at h; exact ⟨h.1, h.2.1.ext he, h.2.2.ext he⟩
   · rename_i h5; rw [if_neg h5] at h; exact ⟨h.1, h.2.ext he⟩
 · simp [killB, pivB, KE] at hk hp
   rcases hk with ⟨rfl, rfl⟩ | ⟨rfl, rfl⟩
   · obtain rfl : k = 6 := by omega
     obtain ⟨h1, h2, h3⟩ := GE.at5 hx
     unfold RE at h
     rw [if_neg (by decide)] at h
     unfold GE
     rw [if_pos rfl]
     exact ⟨h1, h.2.blk h2 (h.1.ne h2), h3.map h.1 h.2⟩
   · obtain rfl : k = 5 := by omega
     obtain ⟨h1, h2⟩ := GE.at6 hx
     unfold RE at h
     rw [if_pos rfl] at h
     obtain ⟨⟨cs, hc⟩, k⟩ := h
     unfold GE
     rw [if_neg (by decide)]
     exact ⟨h1, h2.chg k (h2.not_cells hc)⟩
 · simp [killB, KE] at hk
   rcases hk with ⟨rfl, rfl⟩ | ⟨rfl, rfl⟩
   · exact .inr hm1
   · exact .inr hm2
end
theorem wpList_wantS_ok {ops : Array Oper} {rest : List Oper} {o : Oper} {a : Act} {w : World} {Q : Exit → Act → World → Prop} {mb n sz : Nat} {g : List UInt8 → Option (List UInt8)} (hg : o.guard = none) (m x : Operand) (hop : o.op = Op.lookup 48 m x true) (hm : a.eval m = .map (some mb)) (h : MapAt wantStr w mb n g sz) (y : List UInt8)
   (hx : a.eval x = .string ⟨y.toArray⟩) (hy : y.length ≤ maxLen) (v : List UInt8) (th : Bool) (hv : (g y).getD [] = v) (ht : (g y).isSome = th)
   (hK : wpList Tryz.prog ops Q rest (a.put o.dst (.tuple #[.string ⟨v.toArray⟩, .bool th])) w) : wpList Tryz.prog ops Q (o :: rest) a w :=
 wpList_mapG_ok (M := wantStr) hg m x hop hm h y hx hy v th hv ht hK
theorem wpList_wantS_del {ops : Array Oper} {rest : List Oper} {o : Oper} {a : Act} {w : World} {Q : Exit → Act → World → Prop} {mb n sz : Nat} {g : List UInt8 → Option (List UInt8)} (hg : o.guard = none) (m x : Operand) (hop : o.op = Op.call { callee := Callee.builtin Builtin.delete, args := #[m, x], argTypes := #[48, 9] }) (hm : a.eval m = .map (some mb)) (h : MapAt wantStr w mb n g sz) (y : List UInt8)
   (hx : a.eval x = .string ⟨y.toArray⟩) (hy : y.length ≤ maxLen)
   (hK : ∀ w', MapAt wantStr w' mb n (updG g y none) (sz - if (g y).isSome then 1 else 0) → Chg mb w w' → wpList Tryz.prog ops Q rest (a.put o.dst (.tuple #[])) w') : wpList Tryz.prog ops Q (o :: rest) a w :=
 wpList_mapG_del (M := wantStr) hg m x hop hm h y hx hy hK
theorem wp_mapG_put {o : Oper} {a : Act} {w : World} {K : Act → World → Prop} {Q : Exit → Act → World → Prop} {mb n sz : Nat} {g : List UInt8 → Option (List UInt8)} (m x v : Operand) (hop : o.op = Op.mapUpdate 48 m x v) (hm : a.eval m = .map (some mb)) (h : MapAt wantStr w mb n g sz) (hn : n < maxLen)
   (y : List UInt8) (hx : a.eval x = .string ⟨y.toArray⟩) (hy : y.length ≤ maxLen) (r : List UInt8) (hv : a.eval v = .string ⟨r.toArray⟩) (hr : r.length ≤ maxLen)
   (hK : ∀ w', MapAt wantStr w' mb (n + 1) (updG g y (some r)) (if (g y).isSome then sz else sz + 1) → Chg mb w w' → K (a.put o.dst undef) w') : o.wp Tryz.prog a w K Q := by
 obtain ⟨D, hown, hs⟩ := h
 obtain ⟨w', hrun, r1, r2⟩ := hown.store wantStr.keyed wantStr.map hn (wantStr.keyOf y hy) (wantStr.enc r hr)
 unfold Oper.wp
 simp [execOp, hop, hm, hx, hv]
 rw [show (Value.string ⟨y.toArray⟩) = wantStr.kv y from rfl, show (Value.string ⟨r.toArray⟩) = wantStr.ev r from rfl]
 simp [hrun, Result.andThen]
 exact hK _ ⟨_, r1, hs.put wantStr y r⟩ (chgG_of_turned r2)
end Go.Proofs.YtifmbcjbccedfaaGreatDoor
namespace Dsd
theorem ASpec.hit {d : DS} {a : Ar} (s : ASpec d a) (k : List UInt8) : hitL d k (a.ivs.getD (findNd a.nd.ents k) []) = (wantA d (recsOf a) k).isSome := by
 have hat := s.at k
 have h1 := (s.iv hat.lt).2.2.2
 rw [Bool.eq_iff_iff, hitL_iff h1, show wantA d (recsOf a) k = wantA d (a.ivs.getD (findNd a.nd.ents k) []) k from hat.has]
 constructor
 · rintro ⟨t, h2, h3⟩
   rw [(wantA_some h1).2 ⟨h2, h3⟩]; rfl
 · intro h
   obtain ⟨t, ht⟩ := Option.isSome_iff_exists.1 h
   exact ⟨t, (wantA_some h1).1 ht⟩
theorem wantA_del' {d : DS} {R : Recs} (hR : Inc d R) (k : List UInt8) : wantA d (delL d k R) = updG (wantA d R) k none := funext fun x => by rw [wantA_del hR]; rfl
theorem wantA_put' {d : DS} {R : Recs} (hR : Inc d R) (r : List UInt8) : wantA d (putL d r R) = updG (wantA d R) (keyD d r) (some r) := funext fun x => by rw [wantA_put hR]; rfl
theorem del_len {d : DS} {R : Recs} (hR : Inc d R) {k : List UInt8} (h : (wantA d R k).isSome = true) : (delL d k R).length = R.length - if (wantA d R k).isSome then 1 else 0 := by
 obtain ⟨t, ht⟩ := Option.isSome_iff_exists.1 h
 have := delL_len (d := d) (k := k) (L := R) ⟨t, (wantA_some hR).1 ht⟩
 rw [if_pos h]; omega
theorem opKey_len (d : DS) (s : List UInt8) : (opKey d s).length ≤ s.length := by
 unfold opKey
 split
 · unfold keyD; simp; omega
 · exact Nat.le_refl _
end Dsd
namespace Go.Proofs.YtifmbcjbccedfaaGreatDoor
open Go.RowKit Dsd
structure RunIn (w : World) (rb ab mb : Nat) (d : DS) (k : Nat) (a : Ar) (q : Option Addr) (c : Nat) (p : Option Addr) (m : Nat) (wr : World) : Prop where
 ext : Ext w wr
 ds : DsAt wr w.heap.size d
 res : Blk wr rb (.cells arZ 29)
 ar : ArAt wr ab a q c p m
 rows : ArV wr a q c p m
 inv : AInv d a
 base : a.base = 1
 next : a.nd.next = 0
 map : MapAt wantStr wr mb k (wantA d (recsOf a)) (recsOf a).length
theorem RunIn.more {w : World} {rb ab mb : Nat} {d : DS} {k : Nat} {a : Ar} {q : Option Addr} {c : Nat} {p : Option Addr} {m : Nat} {w1 w2 : World} (h : RunIn w rb ab mb d k a q c p m w1) (e : Ext w1 w2) : RunIn w rb ab mb d k a q c p m w2 :=
 ⟨h.ext.trans e, h.ds.ext e, e.blk _ _ h.res, h.ar.ext e, h.rows.ext e, h.inv, h.base, h.next, h.map.ext e⟩
theorem RunIn.step {w : World} {rb ab mb : Nat} {d : DS} {k : Nat} {a : Ar} {q : Option Addr} {c : Nat} {p : Option Addr} {m : Nat} {w1 : World} (h : RunIn w rb ab mb d k a q c p m w1) : RunIn w rb ab mb d (k + 1) a q c p m w1 :=
 ⟨h.ext, h.ds, h.res, h.ar, h.rows, h.inv, h.base, h.next, h.map.mono (by omega)⟩
def RunOut (d : DS) (w : World) (e : Ending) (w' : World) : Prop :=
 Ext w w' ∧ ∃ (a : Ar) (q : Option Addr) (c : Nat) (p : Option Addr) (m mb n : Nat), e = .returned (.tuple #[.agg (arC a q c p m), .map (some mb), .bool true]) ∧ ArV w' a q c p m ∧ AInv d a ∧ a.base = 1 ∧ a.nd.next = 0 ∧ MapAt wantStr w' mb n (wantA d (recsOf a)) (recsOf a).length
set_option maxRecDepth 100000 in
set_option maxHeartbeats 40000000 in
theorem RunA_any (d : DS) (p : Option Addr) (c : Nat) (L : List AOp) (w : World) (hs : AOps w p L) (hd : keyedB d = true) (hn : L.length ≤ 80) (hL : ∀ i, (L.getD i ([], false)).1.length ≤ 300) :
   Calls Tryz.prog 18 #[.agg #[.int .i64 d.id, .int .i64 d.org, .int .i64 d.format, .int .i64 d.length, .int .i64 d.block, .int .i64 d.keyAt, .int .i64 d.keyLength, .int .i64 d.interval, .int .i64 d.area, .int .i64 d.freeInterval, .int .i64 d.freeArea, .int .i64 d.base, .int .i64 d.altAt, .int .i64 d.altLength, .bool d.unique, .int .i64 d.cls, .string ⟨d.volume.toArray⟩, .string ⟨d.owner.toArray⟩, .int .i64 d.created, .int .i64 d.expires, .bool d.archived], .slice p L.length c] w (RunOut d w) := by
 have HN := Lib.hid (fun W => NewA_any 1 W (by decide))
 have Hs := Lib.hid hs
 have HL := Lib.hid hL
 have Hd := Lib.hid hd
 have hmm := @run_makeMap Tryz.prog
 clear hs hL hd
 go_enter Tryz.func18, Tryz.ntmps18
 go_upto_region 2 with (first
   | (go_at_call 24; refine (HN.out _).mono ?_; rintro e w2 ⟨he2, q0, c0, p0, m0, rfl, hv0⟩)
   | (refine wpList_put rfl 29 (.tmp 7) (.tmp 19) rfl _ (arC (newA 1) q0 c0 p0 m0) rfl rfl _ _ (Blk.new1 _ _ _ (by simp)) arSize rfl (ar_one ..) ?_; intro w3 ha3 hc3))
 have hE2 : Ext w w2 := ((Ext.alloc _ _).trans (Ext.alloc _ _)).trans he2
 have hEm : Ext w2 (w2.alloc (.map #[] 0)) := Ext.alloc _ _
 have hEz : Ext (w2.alloc (.map #[] 0)) w3 := hc3.ext (Ext.alloc _ _) (by simp)
 have hin : RunIn w (w.heap.size + 1) (w2.heap.size + 1) w2.heap.size d 0 (newA 1) q0 c0 p0 m0 w3 :=
   ⟨(hE2.trans hEm).trans hEz, (((Ext.alloc _ _).trans he2).trans (hEm.trans hEz)).blk _ _ (Blk.new w _), (he2.trans (hEm.trans hEz)).blk _ _ (Blk.new1 _ _ _ (by simp)), ha3, hv0.ext (hEm.trans hEz), new_inv Hd.out (by decide), rfl, rfl, (MapAt.made wantStr w2).ext hEz⟩
 refine wp_name (fun w5 => RunIn w (w.heap.size + 1) (w2.heap.size + 1) w2.heap.size d 0 (newA 1) q0 c0 p0 m0 w5 ∧ w.heap.size + 1 < w2.heap.size) ⟨hin, by have := Blk.lt (he2.blk _ _ (Blk.new1 (w.alloc (.cells #[.int .i64 d.id, .int .i64 d.org, .int .i64 d.format, .int .i64 d.length, .int .i64 d.block, .int .i64 d.keyAt, .int .i64 d.keyLength, .int .i64 d.interval, .int .i64 d.area, .int .i64 d.freeInterval, .int .i64 d.freeArea, .int .i64 d.base, .int .i64 d.altAt, .int .i64 d.altLength, .bool d.unique, .int .i64 d.cls, .string ⟨d.volume.toArray⟩, .string ⟨d.owner.toArray⟩, .int .i64 d.created, .int .i64 d.expires, .bool d.archived] 23)) (.cells arZ 29) (w.heap.size + 1) (by simp))); omega⟩ ?_
 clear hin hE2 hEm hEz ha3 hc3 he2 hv0 hmm HN
 rintro w5 ⟨hin, hrm⟩
 generalize hmb : w2.heap.size = mb at *
 clear hmb
 have Hin := Lib.hid hin
 clear hin
 go_upto_region 3 with (fail)
 go_loopw [23] (fun i wr => ∃ j : Nat, j ≤ L.length ∧ i = .int .i64 j ∧ ∃ a q c p m, RunIn w (w.heap.size + 1) (mb + 1) mb d j a q c p m wr) (fun i _ => L.length - (intOf i).toNat)
 case atStart => exact ⟨0, Nat.zero_le _, rfl, _, _, _, _, _, Hin.out⟩
 case round =>
   clear Hin
   obtain ⟨j, hj, rfl, a, q, c1, p1, m, hin⟩ := hrel
   have HI := Lib.hid hin
   by_cases hlt : j < L.length
   · have hltI : (j : Int) < L.length := by omega
     obtain ⟨b, off, rfl, hbb, hc⟩ := (Hs.out.ext hin.ext).at j hlt
     obtain ⟨hck0, hck1⟩ := hc j hlt
     have hrl := HL.out j
     clear hc
     generalize L.getD j ([], false) = x at *
     obtain ⟨r, er⟩ := x
     simp only at hrl hck0 hck1
     have hwl : w.heap.size < wr.heap.size := Blk.lt hin.ds
     have hrbl : w.heap.size + 1 < wr.heap.size := Blk.lt hin.res
     have habl : mb + 1 < wr.heap.size := Blk.lt hin.ar
     have HKey := Lib.hid (fun W => KeyR_any d r er Hd.out W)
     have hkl : Hid ((opKey d r).length ≤ 300) := Lib.hid (Nat.le_trans (opKey_len d r) hrl)
     have Hrl := Lib.hid hrl
     clear hin hrl
     go_upto_region 5 with (first
       | ((with_reducible (show wpList _ _ _ (⟨some 26, _, _, _, _, _⟩ :: _) _ _)); refine wpList_aop (o := ⟨some 26, _, _, _, _, _⟩) rfl (.tmp 25) rfl b (off + j * 2) (by go_simp) r er hck0 hck1 ?_)
       | (refine wpList_put rfl 85 (.tmp 10) (.tmp 26) rfl _ #[.string ⟨r.toArray⟩, .bool er] rfl rfl _ _ (Blk.new1 _ _ _ (by simp)) opSizeA rfl (op_oneA r er) ?_; intro w1 hbo hco))
     refine wp_name (fun w1 => RunIn w (w.heap.size + 1) (mb + 1) mb d j a q c1 p1 m w1 ∧ Blk w1 wr.heap.size (.cells #[.string ⟨r.toArray⟩, .bool er] 85)) ⟨HI.out.more (hco.ext (Ext.alloc _ _) (Nat.le_refl _)), hbo⟩ ?_
     clear hbo hco hck0 hck1 HI
     rintro w1 ⟨hin, hbo⟩
     generalize wr.heap.size = ob at *
     have hds := hin.ds
     have HB1 := Lib.hid (And.intro hin hbo)
     have hobl : ob < w1.heap.size := Blk.lt hbo
     clear hin
     go_upto_region 6 with (first
       | ((with_reducible (show wpList _ _ _ (⟨some 27, _, _, _, _, _⟩ :: _) _ _)); refine wpList_ds (o := ⟨some 27, _, _, _, _, _⟩) rfl (.tmp 2) rfl _ rfl d hds ?_)
       | ((with_reducible (show wpList _ _ _ (⟨some 28, _, _, _, _, _⟩ :: _) _ _)); refine wpList_row (o := ⟨some 28, _, _, _, _, _⟩) rfl 85 (.tmp 10) rfl _ rfl _ _ _ hbo opDescA rfl opSizeA ?_)
       | (go_at_call 47; refine (HKey.out _).mono ?_; rintro e w2 ⟨rfl, he2⟩))
     refine wp_name (fun w3 => RunIn w (w.heap.size + 1) (mb + 1) mb d j a q c1 p1 m w3 ∧ Blk w3 ob (.cells #[.string ⟨r.toArray⟩, .bool er] 85)) ⟨HB1.out.1.more he2, he2.blk _ _ HB1.out.2⟩ ?_
     clear he2 HB1 hds hobl hbo HKey
     rintro w3 ⟨hin, hbo⟩
     have hds := hin.ds
     have har := hin.ar
     have k1 := Blk.val hbo 1 _ rfl
     have lo := Blk.lt hbo
     have HB := Lib.hid (And.intro hin hbo)
     have HInv := Lib.hid hin.inv
     have HV := Lib.hid hin.rows
     cases er
     · have HP := Lib.hid (fun W (e : Ext w3 W) => PutA_any d a q c1 p1 m r W HInv.out (HV.out.ext e))
       have HR := Lib.hid (IsRecordR_any d r Hd.out)
       have k0 := Blk.val hbo 0 _ rfl
       cases hr : recB d r
       · rw [hr] at HR
         have Hr := Lib.hid hr
         clear hr
         go_upto_region 15 with (first
           | ((with_reducible (show wpList _ _ _ (⟨some 64, _, _, _, _, _⟩ :: _) _ _)); refine wpList_ds (o := ⟨some 64, _, _, _, _, _⟩) rfl (.tmp 2) rfl _ rfl d hds ?_)
           | ((with_reducible (show wpList _ _ _ (⟨some 65, _, _, _, _, _⟩ :: _) _ _)); refine wpList_row (o := ⟨some 65, _, _, _, _, _⟩) rfl 29 (.tmp 7) rfl _ rfl _ _ _ har arDesc rfl arSize ?_)
           | (go_at_call 25; refine (HP.out _ (Ext.refl _)).mono ?_; rintro e w4 ⟨he4, ho4⟩; rw [if_neg (by rw [Hr.out]; simp)] at ho4; subst ho4)
           | (refine wpList_put rfl 29 (.tmp 16) (.tmp 69) rfl _ arZ rfl rfl _ _ (Blk.new w4 _) arSize rfl (by simp [arZ, Value.oneCell']) ?_; intro w5 hx5 hc5))
         have he5 : Ext w3 w5 := he4.trans (hc5.ext (Ext.alloc _ _) (Nat.le_refl _))
         refine wp_name (fun w6 => RunIn w (w.heap.size + 1) (mb + 1) mb d j a q c1 p1 m w6 ∧ Blk w6 ob (.cells #[.string ⟨r.toArray⟩, .bool false] 85)) ⟨HB.out.1.more he5, he5.blk _ _ hbo⟩ ?_
         clear he5 hx5 hc5 he4 HP hds har k1 k0 lo hbo HB
         rintro w6 ⟨hin, hbo⟩
         have hds := hin.ds
         have k0 := Blk.val hbo 0 _ rfl
         have lo := Blk.lt hbo
         have HB := Lib.hid hin
         clear hin
         go_wp2_with (first
           | ((with_reducible (show wpList _ _ _ (⟨some 74, _, _, _, _, _⟩ :: _) _ _)); refine wpList_ds (o := ⟨some 74, _, _, _, _, _⟩) rfl (.tmp 2) rfl _ rfl d hds ?_)
           | (go_at_call 42; refine (HR.out _).mono ?_; rintro e w7 ⟨rfl, he7⟩))
         go_roundw
         case rel => exact ⟨j + 1, by omega, by go_num, _, _, _, _, _, (HB.out.more he7).step⟩
         case measure => simp [intOf]; omega
       · rw [hr] at HR
         have Hr := Lib.hid hr
         clear hr
         go_upto_region 15 with (first
           | ((with_reducible (show wpList _ _ _ (⟨some 64, _, _, _, _, _⟩ :: _) _ _)); refine wpList_ds (o := ⟨some 64, _, _, _, _, _⟩) rfl (.tmp 2) rfl _ rfl d hds ?_)
           | ((with_reducible (show wpList _ _ _ (⟨some 65, _, _, _, _, _⟩ :: _) _ _)); refine wpList_row (o := ⟨some 65, _, _, _, _, _⟩) rfl 29 (.tmp 7) rfl _ rfl _ _ _ har arDesc rfl arSize ?_)
           | (go_at_call 25; refine (HP.out _ (Ext.refl _)).mono ?_; rintro e w4 ⟨he4, ho4⟩; rw [if_pos Hr.out] at ho4; obtain ⟨a2, ok, q2, c2, p2, m2, rfl, hv2, hI2, hb2, hn2, hok, hno, _⟩ := ho4)
           | (refine wpList_put rfl 29 (.tmp 16) (.tmp 69) rfl _ (arC a2 q2 c2 p2 m2) rfl rfl _ _ (Blk.new w4 _) arSize rfl (ar_one ..) ?_; intro w5 hx5 hc5))
         have hE4 : Ext w4 w5 := hc5.ext (Ext.alloc _ _) (Nat.le_refl _)
         have he5 : Ext w3 w5 := he4.trans hE4
         have hxb : w3.heap.size ≤ w4.heap.size := he4.size
         refine wp_name (fun w6 => RunIn w (w.heap.size + 1) (mb + 1) mb d j a q c1 p1 m w6 ∧ Blk w6 ob (.cells #[.string ⟨r.toArray⟩, .bool false] 85) ∧ ArAt w6 w4.heap.size a2 q2 c2 p2 m2 ∧ ArV w6 a2 q2 c2 p2 m2) ⟨HB.out.1.more he5, he5.blk _ _ hbo, hx5, hv2.ext hE4⟩ ?_
         clear he5 hx5 hc5 he4 HP hds har k1 k0 hE4 hbo hv2 HB
         rintro w6 ⟨hin, hbo, hx6, hv6⟩
         generalize w4.heap.size = xb at *
         have hds := hin.ds
         have har := hin.ar
         have k0 := Blk.val hbo 0 _ rfl
         have lo' := Blk.lt hbo
         have HB := Lib.hid (And.intro hin (And.intro hbo (And.intro hx6 hv6)))
         have HI2 := Lib.hid hI2
         have Hbn := Lib.hid (And.intro hb2 hn2)
         cases ok
         · obtain ⟨rfl, _⟩ := hno rfl
           obtain ⟨n1, n2, n3, n4, n5⟩ := inv_small HI2.out.spec
           have HSm := Lib.hid (fun W (e : Ext w6 W) => SameA_any a2 q c1 p1 m q2 c2 p2 m2 W (HB.out.1.rows.ext e) (HB.out.2.2.2.ext e) (by omega) (by omega) n5)
           clear hok hno hI2 hb2 hn2 hin hv6 n5
           go_wp2_with (first
             | ((with_reducible (show wpList _ _ _ (⟨some 74, _, _, _, _, _⟩ :: _) _ _)); refine wpList_ds (o := ⟨some 74, _, _, _, _, _⟩) rfl (.tmp 2) rfl _ rfl d hds ?_)
             | (go_at_call 42; refine (HR.out _).mono ?_; rintro e w7 ⟨rfl, he7⟩; have har7 := har.ext he7; have hx7 := hx6.ext he7)
             | ((with_reducible (show wpList _ _ _ (⟨some 98, _, _, _, _, _⟩ :: _) _ _)); refine wpList_row (o := ⟨some 98, _, _, _, _, _⟩) rfl 29 (.tmp 7) rfl _ rfl _ _ _ har7 arDesc rfl arSize ?_)
             | ((with_reducible (show wpList _ _ _ (⟨some 99, _, _, _, _, _⟩ :: _) _ _)); refine wpList_row (o := ⟨some 99, _, _, _, _, _⟩) rfl 29 (.tmp 16) rfl _ rfl _ _ _ hx7 arDesc rfl arSize ?_)
             | (go_at_call 15; refine (HSm.out _ he7).mono ?_; rintro e w8 ⟨rfl, he8⟩))
           go_roundw
           case rel => exact ⟨j + 1, by omega, by go_num, _, _, _, _, _, (HB.out.1.more (he7.trans he8)).step⟩
           case measure => simp [intOf]; omega
         · have Hrec := Lib.hid (hok rfl)
           clear hok hno hI2 hb2 hn2 hin hv6 har
           go_upto_region 18 with (first
             | ((with_reducible (show wpList _ _ _ (⟨some 74, _, _, _, _, _⟩ :: _) _ _)); refine wpList_ds (o := ⟨some 74, _, _, _, _, _⟩) rfl (.tmp 2) rfl _ rfl d hds ?_)
             | (go_at_call 42; refine (HR.out _).mono ?_; rintro e w7 ⟨rfl, he7⟩))
           have hb7 := HB.out.1.more he7
           have ho7 := he7.blk _ _ HB.out.2.1
           have hx7 := HB.out.2.2.1.ext he7
           have hv7 := HB.out.2.2.2.ext he7
           have HB7 := Lib.hid (And.intro hb7 (And.intro ho7 (And.intro hx7 hv7)))
           have hkey : opKey d r = keyD d r := by unfold opKey; rw [if_pos Hr.out]
           have HK := Lib.hid hkey
           have HX := Lib.hid hb7.ext
           have hwmb : w.heap.size + 1 < mb := hrm
           clear hb7 ho7 hx7 hv7 he7 HB hds hbo hx6 k0 lo lo' hxb hkey
           refine Pre.wp_region_pk 200 [(5, [(2, 109)]), (6, [(0, 107)])] (HX.out) (by kernel_rfl) (by kernel_rfl) (by kernel_rfl) (by kernel_rfl) (by kernel_rfl) (by kernel_rfl) (gok_run (n := j + 1) (sz := if (wantA d (recsOf a) (opKey d r)).isSome then (recsOf a).length else (recsOf a).length + 1) (g := updG (wantA d (recsOf a)) (opKey d r) (some r)) (db := w.heap.size) (rb := w.heap.size + 1) (ab := mb + 1) (mb := mb) (d := d) (a := a2) (q := q2) (c := c2) (p := p2) (m := m2) (by omega) (by omega) (by kernel_rfl) (by kernel_rfl)) (prok_run (db := w.heap.size) (rb := w.heap.size + 1) (ab := mb + 1) (mb := mb) (xb := xb) (ob := ob) (n := j) (sz := (recsOf a).length) (d := d) (a := a2) (q := q2) (c := c2) (p := p2) (m := m2) (g := wantA d (recsOf a)) (r := r) (er := false) (by kernel_rfl)) (fun p hp => by simp [pivB] at hp; rcases hp with rfl | rfl; (unfold PrE; rw [if_pos rfl]; exact ⟨⟨_, by rfl, HB7.out.1.ar⟩, HB7.out.2.2.1, ⟨HB7.out.1.ds, HB7.out.1.res, HB7.out.2.2.2⟩⟩); (unfold PrE; rw [if_neg (by decide)]; exact ⟨HB7.out.1.map, HB7.out.2.1⟩)) ?_
           simp only [List.take_succ_cons, List.take_zero, List.take_nil, List.drop_succ_cons, List.drop_zero, List.drop_nil, List.map_cons, List.map_nil]
           repeat (first
             | (refine Pre.wpPL_step (o := ⟨some 109, _, _, _, _, _⟩) (Is (.agg (arC a2 q2 c2 p2 m2))) (Is.stable _) (Pre.KeepsP.is _ _ _ _ _ _) (by kernel_rfl) (by first | exact .inl rfl | exact .inr ⟨_, _, _, rfl, rfl, rfl⟩) ?_ ?_
                · intro a w' he0 hp hr K hK
                  obtain ⟨_, kx, _⟩ := PrE.at5 (hp 5 (by kernel_rfl) (by kernel_rfl))
                  simp [Reads, Oper.looksAt, Op.operands, Call.operands, factAt, Is] at hr
                  exact wp_load_row 29 (.tmp 16) rfl xb (by go_simp) _ _ _ _ kx arDesc rfl arSize (hK _ _ (Ext.refl _) rfl)
                simp only [setL, List.set_cons_succ, List.set_cons_zero])
             | (refine Pre.wpPL_step (o := ⟨some 111, _, _, _, _, _⟩) (Is (.string ⟨r.toArray⟩)) (Is.stable _) (Pre.KeepsP.is _ _ _ _ _ _) (by kernel_rfl) (by first | exact .inl rfl | exact .inr ⟨_, _, _, rfl, rfl, rfl⟩) ?_ ?_
                · intro a w' he0 hp hr K hK
                  obtain ⟨_, ko⟩ := PrE.at6 (hp 6 (by kernel_rfl) (by kernel_rfl))
                  have c0 := Blk.val ko 0 _ rfl
                  simp [Reads, Oper.looksAt, Op.operands, Call.operands, factAt, Is] at hr
                  go_simp
                  exact hK _ _ (Ext.refl _) rfl
                simp only [setL, List.set_cons_succ, List.set_cons_zero])
             | (refine Pre.wpPL_pivot (o := ⟨none, .store _ _ _, _, _, _, _⟩) Any Any.stable (fun _ _ => .inr fun _ _ _ _ h => h) (by kernel_rfl) (by first | exact .inl rfl | exact .inr ⟨_, _, _, rfl, rfl, rfl⟩) ?_ ?_
                · intro a w' he0 hp hr K hK
                  have h0 := hr 7 (by simp [Oper.looksAt, Op.operands])
                  have h1 := hr 109 (by simp [Oper.looksAt, Op.operands])
                  obtain ⟨⟨cs, hcs, kb⟩, _, kS⟩ := PrE.at5 (hp 5 (by kernel_rfl) (by kernel_rfl))
                  refine wp_store_row 29 (.tmp 7) (.tmp 109) rfl (mb + 1) (arC a2 q2 c2 p2 m2) h0 h1 _ cs kb arSize (by rw [hcs]; rfl) (ar_one ..) ?_
                  exact hK _ _ (by unfold RE; rw [if_pos rfl]; exact ⟨⟨_, kb⟩, Chg.setRow⟩) trivial (fun x hx hxi y hy => by simp at hx; rcases hx with rfl | rfl; simp at hy; subst hy; unfold GE; rw [if_pos rfl]; exact ⟨h1, Blk.setRow kb, kS.area kb (by omega) Chg.setRow⟩; simp at hxi)
                simp only [setL, List.set_cons_succ, List.set_cons_zero])
             | (refine Pre.wpPL_pivot (o := ⟨none, _, _, _, _, _⟩) Any Any.stable (fun _ _ => .inr fun _ _ _ _ h => h) (by kernel_rfl) (by first | exact .inl rfl | exact .inr ⟨_, _, _, rfl, rfl, rfl⟩) ?_ ?_
                · intro a w' he0 hp hr K hK
                  have h0 := hr 107 (by simp [Oper.looksAt, Op.operands])
                  have h1 := hr 108 (by simp [Oper.looksAt, Op.operands])
                  have h2 := hr 111 (by simp [Oper.looksAt, Op.operands])
                  obtain ⟨kM, _⟩ := PrE.at6 (hp 6 (by kernel_rfl) (by kernel_rfl))
                  refine wp_mapG_put (.tmp 107) (.tmp 108) (.tmp 111) rfl h0 kM (by unfold maxLen; omega) (opKey d r) h1 (by have := hkl.out; unfold maxLen; omega) r h2 (by have := Hrl.out; unfold maxLen; omega) ?_
                  intro w'' hM hc
                  exact hK _ _ (by unfold RE; rw [if_neg (by decide)]; exact ⟨MapAt.isMap kM, hc⟩) trivial (fun x hx hxi y hy => by simp at hx; rcases hx with rfl | rfl; simp at hxi; simp at hy; subst hy; unfold GE; rw [if_neg (by decide)]; exact ⟨h0, hM⟩)
                simp only [setL, List.set_cons_succ, List.set_cons_zero])
             | (refine Pre.wpPL_move _ _ (by kernel_rfl) (by first | exact .inl rfl | exact .inr ⟨_, _, _, rfl, rfl, rfl⟩) (by first | exact .inl rfl | exact .inr rfl) rfl (by first | exact Is.stable _ | exact RowsF.stable _ _ _ _ _ | exact NoneF.stable _ _ | exact Fresh.stable _ _ _ | exact AppF.stable _ | exact WrF.stable _ | exact PtrF.stable _ _ | exact PlF.stable _ _) (by first | exact Pre.KeepsP.is _ _ _ _ _ _ ) ?_
                simp only [setL, List.set_cons_succ, List.set_cons_zero, List.getD_cons_succ, List.getD_cons_zero])
             | (apply Pre.wpPL_det (fun k v => Pre.KeepsP.is _ _ _ _ k v) (by kernel_rfl) (by first | exact .inl rfl | exact .inr ⟨_, _, _, rfl, rfl, rfl⟩)
                · intro a w' he0 hp hr K hK
                  have he := (fun (_ : 0 = 0) (_ : 0 = 0) => he0) (by kernel_rfl) (by kernel_rfl)
                  simp [Reads, Oper.looksAt, Op.operands, Call.operands, factAt, Is] at hr
                  have hx := he.cell
                  go_simp
                  try go_bits
                  try (rw [if_neg (by omega)]; go_simp)
                  first
                    | exact hK _ (Ext.refl _)
                simp only [setL, List.set_cons_succ, List.set_cons_zero]))
           intro w2 he2
           simp only [killL, killIn, List.foldl_cons, List.foldl_nil, List.set_cons_succ, List.set_cons_zero]
           repeat (first | with_reducible refine rest_is _ _ _ _ ?_ | (with_reducible refine rest_fact _ _ _ _ ?_; intro _ _) | with_reducible refine rest_end _ _ ?_)
           simp only [List.reverse_cons, List.reverse_nil, List.nil_append, List.cons_append]
           rename_i x6 h6 x5 h5
           obtain ⟨rfl, hM2⟩ := GE.at6 h6
           obtain ⟨rfl, ha2, hst⟩ := GE.at5 h5
           have Hrel : RunIn w (w.heap.size + 1) (mb + 1) mb d (j + 1) a2 q2 c2 p2 m2 w2 := ⟨he2, hst.ds, hst.res, ha2, hst.ar, HI2.out, by rw [Hbn.out.1]; exact HB7.out.1.base, by rw [Hbn.out.2]; exact HB7.out.1.next, by
             have hinc := HB7.out.1.inv.spec.inc
             rw [Hrec.out]
             rw [HK.out] at hM2
             exact hM2.as (wantA_put' hinc r).symm (Dsd.putL_len hinc).symm⟩
           have HR2 := Lib.hid Hrel
           clear Hrel hM2 ha2 hst h5 h6 he2
           go_wp2_with fail
           go_roundw
           case rel => exact ⟨j + 1, by omega, by go_num, _, _, _, _, _, HR2.out⟩
           case measure => simp [intOf]; omega
     · have HEr := Lib.hid (fun W (e : Ext w3 W) => EraseA_any d a q c1 p1 m (opKey d r) W HInv.out (HV.out.ext e))
       have Hhit := Lib.hid (HInv.out.spec.hit (opKey d r))
       have hkm : Hid ((opKey d r).length ≤ maxLen) := Lib.hid (by have := hkl.out; unfold maxLen; omega)
       generalize opKey d r = kk at *
       cases hw : wantA d (recsOf a) kk with
       | none =>
         rw [hw] at Hhit
         have HW := Lib.hid hw
         clear hw
         go_upto_region 8 with (first
           | ((with_reducible (show wpList _ _ _ (⟨some 33, _, _, _, _, _⟩ :: _) _ _)); refine wpList_ds (o := ⟨some 33, _, _, _, _, _⟩) rfl (.tmp 2) rfl _ rfl d hds ?_)
           | ((with_reducible (show wpList _ _ _ (⟨some 34, _, _, _, _, _⟩ :: _) _ _)); refine wpList_row (o := ⟨some 34, _, _, _, _, _⟩) rfl 29 (.tmp 7) rfl _ rfl _ _ _ har arDesc rfl arSize ?_)
           | (go_at_call 48; refine (HEr.out _ (Ext.refl _)).mono ?_; rintro e w4 ⟨he4, ho4⟩; rw [if_neg (by rw [Hhit.out]; simp)] at ho4; subst ho4)
           | (refine wpList_put rfl 29 (.tmp 12) (.tmp 37) rfl _ arZ rfl rfl _ _ (Blk.new w4 _) arSize rfl (by simp [arZ, Value.oneCell']) ?_; intro w5 hx5 hc5))
         have he5 : Ext w3 w5 := he4.trans (hc5.ext (Ext.alloc _ _) (Nat.le_refl _))
         have hM := HB.out.1.map.ext he5
         have HB5 := Lib.hid (HB.out.1.more he5)
         clear he5 hx5 hc5 he4 HEr hds har k1 lo hbo HB
         go_wp2_with (refine wpList_wantS_ok (o := ⟨some 42, _, _, _, _, _⟩) rfl (.tmp 40) (.tmp 41) rfl rfl hM kk rfl hkm.out [] false (by rw [HW.out]; rfl) (by rw [HW.out]; rfl) ?_)
         go_roundw
         case rel => exact ⟨j + 1, by omega, by go_num, _, _, _, _, _, HB5.out.step⟩
         case measure => simp [intOf]; omega
       | some t =>
         rw [hw] at Hhit
         have HW := Lib.hid hw
         clear hw
         go_upto_region 8 with (first
           | ((with_reducible (show wpList _ _ _ (⟨some 33, _, _, _, _, _⟩ :: _) _ _)); refine wpList_ds (o := ⟨some 33, _, _, _, _, _⟩) rfl (.tmp 2) rfl _ rfl d hds ?_)
           | ((with_reducible (show wpList _ _ _ (⟨some 34, _, _, _, _, _⟩ :: _) _ _)); refine wpList_row (o := ⟨some 34, _, _, _, _, _⟩) rfl 29 (.tmp 7) rfl _ rfl _ _ _ har arDesc rfl arSize ?_)
           | (go_at_call 48; refine (HEr.out _ (Ext.refl _)).mono ?_; rintro e w4 ⟨he4, ho4⟩; rw [if_pos (by rw [Hhit.out]; rfl)] at ho4; obtain ⟨a2, q2, c2, p2, m2, rfl, hv2, hI2, hb2, hn2, hrec⟩ := ho4)
           | (refine wpList_put rfl 29 (.tmp 12) (.tmp 37) rfl _ (arC a2 q2 c2 p2 m2) rfl rfl _ _ (Blk.new w4 _) arSize rfl (ar_one ..) ?_; intro w5 hx5 hc5))
         have hE4 : Ext w4 w5 := hc5.ext (Ext.alloc _ _) (Nat.le_refl _)
         have he5 : Ext w3 w5 := he4.trans hE4
         have HB5 := Lib.hid (HB.out.1.more he5)
         have HV5 := Lib.hid (hv2.ext hE4)
         have hM5 := HB5.out.map
         have ha5 := HB5.out.ar
         have HI2 := Lib.hid (And.intro hI2 (And.intro hb2 (And.intro hn2 hrec)))
         have hxl := Blk.lt hx5
         generalize w4.heap.size = xb at *
         clear he5 hc5 he4 HEr hds har k1 lo hbo HB hv2 hE4 hI2 hb2 hn2 hrec
         go_wp2_with (first
           | (refine wpList_wantS_ok (o := ⟨some 42, _, _, _, _, _⟩) rfl (.tmp 40) (.tmp 41) rfl rfl hM5 kk rfl hkm.out t true (by rw [HW.out]; rfl) (by rw [HW.out]; rfl) ?_)
           | ((with_reducible (show wpList _ _ _ (⟨some 60, _, _, _, _, _⟩ :: _) _ _)); refine wpList_row (o := ⟨some 60, _, _, _, _, _⟩) rfl 29 (.tmp 12) rfl _ rfl _ _ _ hx5 arDesc rfl arSize ?_)
           | (refine wpList_put rfl 29 (.tmp 7) (.tmp 60) rfl _ (arC a2 q2 c2 p2 m2) rfl rfl _ _ ha5 arSize rfl (ar_one ..) ?_; intro w7 ha7 hc7; have hM7 := hM5.chg hc7 (hM5.not_cells ha5))
           | (refine wpList_wantS_del (o := ⟨none, _, _, _, _, _⟩) rfl (.tmp 61) (.tmp 62) rfl rfl hM7 kk rfl hkm.out ?_; intro w8 hM8 hc8))
         have hd7 := hc7.blk HB5.out.ds (blk_ne HB5.out.ds ha5 (by decide))
         have hr7 := hc7.blk HB5.out.res (by omega)
         have hv7 := HV5.out.chgA ha5 (by decide) (by decide) (by decide) hc7
         have hi7 : IsMapB w7 mb := MapAt.isMap hM7
         have Hrel : RunIn w (w.heap.size + 1) (mb + 1) mb d (j + 1) a2 q2 c2 p2 m2 w8 :=
           ⟨hc8.ext (hc7.ext HB5.out.ext (by omega)) (by omega), hc8.blk hd7 (hi7.ne hd7), hc8.blk hr7 (hi7.ne hr7), hc8.blk ha7 (hi7.ne ha7), hv7.chgN hi7.no hc8, HI2.out.1, by rw [HI2.out.2.1]; exact HB5.out.base, by rw [HI2.out.2.2.1]; exact HB5.out.next,
             by
               have hinc := HB5.out.inv.spec.inc
               rw [HI2.out.2.2.2]
               exact (hM8.as (wantA_del' hinc kk).symm (del_len hinc (by rw [HW.out]; rfl)).symm).mono (by omega)⟩
         have HR8 := Lib.hid Hrel
         clear Hrel hd7 hr7 hv7 hi7 hM7 hM8 hc7 hc8 ha7
         go_roundw
         case rel => exact ⟨j + 1, by omega, by go_num, _, _, _, _, _, HR8.out⟩
         case measure => simp [intOf]; omega
   · have hje : j = L.length := by omega
     subst hje
     have har := hin.ar
     have hres := hin.res
     have hwl : w.heap.size + 1 < wr.heap.size := Blk.lt hin.res
     clear hin
     go_wp2_with (first
       | ((with_reducible (show wpList _ _ _ (⟨some 113, _, _, _, _, _⟩ :: _) _ _)); refine wpList_row (o := ⟨some 113, _, _, _, _, _⟩) rfl 29 (.tmp 7) rfl _ rfl _ _ _ har arDesc rfl arSize ?_)
       | (refine wpList_put rfl 29 (.tmp 4) (.tmp 113) rfl _ (arC a q c1 p1 m) rfl rfl _ _ hres arSize rfl (ar_one ..) ?_; intro w8 hx8 hc8))
     exact bodyPost_ret (results_row2 Tryz.results18 _ _ _ _ _ _ rfl hx8 arDesc rfl arSize) rfl ⟨hc8.ext HI.out.ext (by omega), a, q, c1, p1, m, mb, L.length, rfl, HI.out.rows.chgA hres (by decide) (by decide) (by decide) hc8, HI.out.inv, HI.out.base, HI.out.next, HI.out.map.chg hc8 (HI.out.map.not_cells hres)⟩
end Go.Proofs.YtifmbcjbccedfaaGreatDoor
