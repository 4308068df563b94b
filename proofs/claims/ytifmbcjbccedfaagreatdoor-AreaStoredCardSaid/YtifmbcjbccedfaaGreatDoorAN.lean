/- A part of the proof. -/
import Derived.Test.YtifmbcjbccedfaaGreatDoorAM

set_option linter.unusedSimpArgs false
set_option linter.unusedVariables false
namespace Dsd
def opKey (d : DS) (s : List UInt8) : List UInt8 := if recB d s = true then keyD d s else s
end Dsd
namespace Go.Proofs.YtifmbcjbccedfaaGreatDoor
open Go.RowKit Dsd
def Typ (w : World) (q : Option Addr) (t : TypeId) : Prop := ∀ g o, q = some ⟨g, o, none⟩ → ∃ cur, Blk w g (.cells cur t)
theorem Typ.ext {w w' : World} {q : Option Addr} {t : TypeId} (h : Typ w q t) (e : Ext w w') : Typ w' q t := fun g o hq => by
 obtain ⟨cur, hc⟩ := h g o hq
 exact ⟨cur, e.blk _ _ hc⟩
theorem Typ.nil (w : World) (t : TypeId) : Typ w none t := fun g o h => by cases h
theorem Typ.of_blk {w : World} {g o : Nat} {cur : Array Value} {t : TypeId} (h : Blk w g (.cells cur t)) : Typ w (some ⟨g, o, none⟩) t := fun g' o' hq => by
 simp only [Option.some.injEq, Addr.mk.injEq, and_true] at hq
 obtain ⟨rfl, rfl⟩ := hq
 exact ⟨cur, h⟩
theorem Typ.of_own {w : World} {B : Nat} {e : TypeId} {k n c : Nat} {q : Option Addr} {xs : List Value} (h : w.ownsRow B e k (.slice q n c) n xs) : Typ w q e := by
 obtain ⟨hl, ⟨hv, h0⟩ | ⟨g', cap, cur, hv, h1, h2, _⟩⟩ := h
 · cases hv; exact Typ.nil _ _
 · cases hv; exact Typ.of_blk h2
theorem Typ.chg {w w' : World} {q : Option Addr} {t t' : TypeId} {b : Nat} {cs : Array Value} (h : Typ w q t) (hb : Blk w b (.cells cs t')) (hne : t ≠ t') (c : Chg b w w') : Typ w' q t := fun g o hq => by
 obtain ⟨cur, hc⟩ := h g o hq
 refine ⟨cur, c.blk hc fun e => ?_⟩
 subst e
 have := hc.symm.trans hb
 simp at this
 exact hne this.2
theorem Cells.chgT {w w' : World} {q : Option Addr} {t t' : TypeId} {b : Nat} {cs : Array Value} {xs : List Value} (h : Cells w q xs) (ht : Typ w q t) (hb : Blk w b (.cells cs t')) (hne : t ≠ t') (c : Chg b w w') : Cells w' q xs := by
 rcases h with h | ⟨g, o, rfl, hl, hc⟩
 · exact .inl h
 · refine cells_chgO (.inr ⟨g, o, rfl, hl, hc⟩) (fun e => ?_) c
   obtain ⟨cur, h1⟩ := ht g o rfl
   subst e
   have := h1.symm.trans hb
   simp at this
   exact hne this.2
def RowV (w : World) (v : Value) (L : Recs) : Prop := ∃ q c, v = .slice q L.length c ∧ Strs w q L ∧ L.length ≤ c ∧ c ≤ maxLen ∧ (q = none → L.length = 0 ∧ c = 0) ∧ Typ w q 9
def RowsV (w : World) (vs : List Value) (V : List Recs) : Prop := vs.length = V.length ∧ ∀ i, i < V.length → RowV w (vs.getD i undef) (V.getD i [])
def Ivs (w : World) (p : Option Addr) (V : List Recs) : Prop := ∃ vs, Cells w p vs ∧ RowsV w vs V
def arC (a : Ar) (q : Option Addr) (c : Nat) (p : Option Addr) (m : Nat) : Array Value := #[.int .i64 a.base, .int .i64 a.nd.level, .int .i64 a.nd.next, .slice q a.nd.ents.length c, .slice p a.ivs.length m]
structure ArV (w : World) (a : Ar) (q : Option Addr) (c : Nat) (p : Option Addr) (m : Nat) : Prop where
 ents : Nents w q a.nd.ents
 ivs : Ivs w p a.ivs
 ec : a.nd.ents.length ≤ c
 ic : a.ivs.length ≤ m
 im : m ≤ maxLen
 te : Typ w q 63
 tp : Typ w p 30
theorem RowV.ext {w w' : World} {v : Value} {L : Recs} (h : RowV w v L) (e : Ext w w') : RowV w' v L := by
 obtain ⟨q, c, h1, h2, h3, h4, h5, h6⟩ := h
 exact ⟨q, c, h1, h2.ext e, h3, h4, h5, h6.ext e⟩
theorem RowsV.ext {w w' : World} {vs : List Value} {V : List Recs} (h : RowsV w vs V) (e : Ext w w') : RowsV w' vs V := ⟨h.1, fun i hi => (h.2 i hi).ext e⟩
theorem Ivs.ext {w w' : World} {p : Option Addr} {V : List Recs} (h : Ivs w p V) (e : Ext w w') : Ivs w' p V := by
 obtain ⟨vs, h1, h2⟩ := h
 exact ⟨vs, h1.ext e, h2.ext e⟩
theorem ArV.ext {w w' : World} {a : Ar} {q : Option Addr} {c : Nat} {p : Option Addr} {m : Nat} (h : ArV w a q c p m) (e : Ext w w') : ArV w' a q c p m := ⟨h.ents.ext e, h.ivs.ext e, h.ec, h.ic, h.im, h.te.ext e, h.tp.ext e⟩
theorem Ivs.at {w : World} {p : Option Addr} {V : List Recs} (h : Ivs w p V) (i : Nat) (hi : i < V.length) :
   ∃ b off v, p = some ⟨b, off, none⟩ ∧ b < w.heap.size ∧ w.cell? ⟨b, off + i, none⟩ = some v ∧ RowV w v (V.getD i []) := by
 obtain ⟨vs, h1, h2, h3⟩ := h
 obtain ⟨b, off, hp, hb, hc⟩ := h1.at i (by omega)
 exact ⟨b, off, _, hp, hb, hc i (by omega), h3 i hi⟩
def RowX (w : World) (v : Value) (L : Recs) : Prop := ∃ q c, v = .slice q L.length c ∧ Strs w q L ∧ L.length ≤ c ∧ c ≤ maxLen ∧ (q = none → L.length = 0 ∧ c = 0)
def RowsX (w : World) (vs : List Value) (V : List Recs) : Prop := vs.length = V.length ∧ ∀ i, i < V.length → RowX w (vs.getD i undef) (V.getD i [])
def IvsX (w : World) (p : Option Addr) (V : List Recs) : Prop := ∃ vs, Cells w p vs ∧ RowsX w vs V
structure ArW (w : World) (a : Ar) (q : Option Addr) (c : Nat) (p : Option Addr) (m : Nat) : Prop where
 ents : Nents w q a.nd.ents
 ivs : IvsX w p a.ivs
 ec : a.nd.ents.length ≤ c
 ic : a.ivs.length ≤ m
 im : m ≤ maxLen
theorem RowX.ext {w w' : World} {v : Value} {L : Recs} (h : RowX w v L) (e : Ext w w') : RowX w' v L := by
 obtain ⟨q, c, h1, h2, h3, h4, h5⟩ := h
 exact ⟨q, c, h1, h2.ext e, h3, h4, h5⟩
theorem RowsX.ext {w w' : World} {vs : List Value} {V : List Recs} (h : RowsX w vs V) (e : Ext w w') : RowsX w' vs V := ⟨h.1, fun i hi => (h.2 i hi).ext e⟩
theorem IvsX.ext {w w' : World} {p : Option Addr} {V : List Recs} (h : IvsX w p V) (e : Ext w w') : IvsX w' p V := by
 obtain ⟨vs, h1, h2⟩ := h
 exact ⟨vs, h1.ext e, h2.ext e⟩
theorem ArW.ext {w w' : World} {a : Ar} {q : Option Addr} {c : Nat} {p : Option Addr} {m : Nat} (h : ArW w a q c p m) (e : Ext w w') : ArW w' a q c p m := ⟨h.ents.ext e, h.ivs.ext e, h.ec, h.ic, h.im⟩
theorem IvsX.at {w : World} {p : Option Addr} {V : List Recs} (h : IvsX w p V) (i : Nat) (hi : i < V.length) :
   ∃ b off v, p = some ⟨b, off, none⟩ ∧ b < w.heap.size ∧ w.cell? ⟨b, off + i, none⟩ = some v ∧ RowX w v (V.getD i []) := by
 obtain ⟨vs, h1, h2, h3⟩ := h
 obtain ⟨b, off, hp, hb, hc⟩ := h1.at i (by omega)
 exact ⟨b, off, _, hp, hb, hc i (by omega), h3 i hi⟩
theorem RowV.x {w : World} {v : Value} {L : Recs} (h : RowV w v L) : RowX w v L := by
 obtain ⟨q, c, h1, h2, h3, h4, h5, _⟩ := h
 exact ⟨q, c, h1, h2, h3, h4, h5⟩
theorem RowsV.x {w : World} {vs : List Value} {V : List Recs} (h : RowsV w vs V) : RowsX w vs V := ⟨h.1, fun i hi => (h.2 i hi).x⟩
theorem ArV.x {w : World} {a : Ar} {q : Option Addr} {c : Nat} {p : Option Addr} {m : Nat} (h : ArV w a q c p m) : ArW w a q c p m := by
 obtain ⟨vs, h1, h2⟩ := h.ivs
 exact ⟨h.ents, ⟨vs, h1, h2.x⟩, h.ec, h.ic, h.im⟩
theorem RowV.of_own {w : World} {base : Nat} {v : Value} {L : Recs} (h : w.ownsRow base 9 1 v L.length (L.map fun s => .string ⟨s.toArray⟩)) : RowV w v L := by
 obtain ⟨q, c, rfl, h1, _, h3, h4⟩ := own_strs_p h
 refine ⟨q, c, rfl, h1, h3, h4, fun hq => ?_, Typ.of_own h⟩
 subst hq
 obtain ⟨hl, ⟨hv, h0⟩ | ⟨g, cap, cur, hv, _⟩⟩ := h
 · simp only [Value.slice.injEq, true_and] at hv
   exact hv
 · simp at hv
theorem RowV.chgT {w w' : World} {v : Value} {L : Recs} {t' : TypeId} {b : Nat} {cs : Array Value} (h : RowV w v L) (hb : Blk w b (.cells cs t')) (hne : 9 ≠ t') (c : Chg b w w') : RowV w' v L := by
 obtain ⟨q, k, h1, h2, h3, h4, h5, h6⟩ := h
 exact ⟨q, k, h1, Cells.chgT h2 h6 hb hne c, h3, h4, h5, h6.chg hb hne c⟩
theorem ArV.chgA {w w' : World} {a : Ar} {q : Option Addr} {c : Nat} {p : Option Addr} {m : Nat} {t' : TypeId} {b : Nat} {cs : Array Value} (h : ArV w a q c p m) (hb : Blk w b (.cells cs t')) (h1 : 9 ≠ t') (h2 : 30 ≠ t') (h3 : 63 ≠ t') (k : Chg b w w') : ArV w' a q c p m := by
 obtain ⟨vs, g1, g2, g3⟩ := h.ivs
 exact ⟨Cells.chgT h.ents h.te hb h3 k, ⟨vs, Cells.chgT g1 h.tp hb h2 k, g2, fun i hi => (g3 i hi).chgT hb h1 k⟩, h.ec, h.ic, h.im, h.te.chg hb h3 k, h.tp.chg hb h2 k⟩
theorem isBase_any (x : Int) (w : World) : Calls Tryz.prog 30 #[.int .i64 x] w fun e w' => e = .returned (.bool (isBaseB x)) ∧ w' = w := by
 by_cases h : 1 ≤ x
 · have h1 : decide (1 ≤ x) = true := decide_eq_true h
   have HE : Hid (isBaseB x = decide (x ≤ 16777208)) := Lib.hid (by unfold isBaseB; rw [h1]; rfl)
   go_enter Tryz.func30, Tryz.ntmps30
   go_wp2
   go_ret
   exact ⟨by rw [HE.out]; rfl, rfl⟩
 · have h1 : decide (1 ≤ x) = false := decide_eq_false h
   have HE : Hid (isBaseB x = false) := Lib.hid (by unfold isBaseB; rw [h1]; rfl)
   go_enter Tryz.func30, Tryz.ntmps30
   go_wp2
   go_ret
   exact ⟨by rw [HE.out]; rfl, rfl⟩
set_option maxRecDepth 100000 in
theorem described_any (d : DS) (w : World) : Calls Tryz.prog 29 #[.agg #[.int .i64 d.id, .int .i64 d.org, .int .i64 d.format, .int .i64 d.length, .int .i64 d.block, .int .i64 d.keyAt, .int .i64 d.keyLength, .int .i64 d.interval, .int .i64 d.area, .int .i64 d.freeInterval, .int .i64 d.freeArea, .int .i64 d.base, .int .i64 d.altAt, .int .i64 d.altLength, .bool d.unique, .int .i64 d.cls, .string ⟨d.volume.toArray⟩, .string ⟨d.owner.toArray⟩, .int .i64 d.created, .int .i64 d.expires, .bool d.archived]] w fun e w' => e = .returned (.bool (keyedB d)) ∧ Ext w w' := by
 have Hv := Lib.hid (Valid_any d)
 have hb := Blk.new w (.cells #[.int .i64 d.id, .int .i64 d.org, .int .i64 d.format, .int .i64 d.length, .int .i64 d.block, .int .i64 d.keyAt, .int .i64 d.keyLength, .int .i64 d.interval, .int .i64 d.area, .int .i64 d.freeInterval, .int .i64 d.freeArea, .int .i64 d.base, .int .i64 d.altAt, .int .i64 d.altLength, .bool d.unique, .int .i64 d.cls, .string ⟨d.volume.toArray⟩, .string ⟨d.owner.toArray⟩, .int .i64 d.created, .int .i64 d.expires, .bool d.archived] 23)
 have HE : Hid (keyedB d = (validB d && decide (d.org = 3))) := Lib.hid rfl
 have ho : (d.org == 3) = decide (d.org = 3) := rfl
 go_enter Tryz.func29, Tryz.ntmps29
 go_upto_region 1 with (fail)
 refine wp_name (fun w0 => Ext w w0 ∧ DsAt w0 w.heap.size d) ⟨Ext.alloc _ _, hb⟩ ?_
 rintro w0 ⟨he0, hb0⟩
 clear hb
 cases hv : validB d
 · rw [hv] at HE Hv
   clear hv
   go_wp2_with (first | (refine wpList_ds rfl (.tmp 1) rfl _ rfl d hb0 ?_) | (go_at_call 66; refine (Hv.out _).mono ?_; rintro e w1 ⟨rfl, he1⟩))
   go_ret
   exact ⟨by rw [HE.out]; rfl, he0.trans he1⟩
 · rw [hv] at HE Hv
   clear hv
   go_wp2_with (first | (refine wpList_ds rfl (.tmp 1) rfl _ rfl d hb0 ?_) | (go_at_call 66; refine (Hv.out _).mono ?_; rintro e w1 ⟨rfl, he1⟩; have c1 := Blk.val (he1.blk _ _ hb0) 1 _ rfl; have hl := Blk.lt (he1.blk _ _ hb0)))
   go_ret
   exact ⟨by rw [HE.out]; rfl, he0.trans he1⟩
set_option maxRecDepth 100000 in
theorem IsKeyedR_any (d : DS) (w : World) : Calls Tryz.prog 16 #[.agg #[.int .i64 d.id, .int .i64 d.org, .int .i64 d.format, .int .i64 d.length, .int .i64 d.block, .int .i64 d.keyAt, .int .i64 d.keyLength, .int .i64 d.interval, .int .i64 d.area, .int .i64 d.freeInterval, .int .i64 d.freeArea, .int .i64 d.base, .int .i64 d.altAt, .int .i64 d.altLength, .bool d.unique, .int .i64 d.cls, .string ⟨d.volume.toArray⟩, .string ⟨d.owner.toArray⟩, .int .i64 d.created, .int .i64 d.expires, .bool d.archived]] w fun e w' => e = .returned (.bool (keyedB d)) ∧ Ext w w' := by
 have Hv := Lib.hid (Valid_ref d)
 have hb := Blk.new w (.cells #[.int .i64 d.id, .int .i64 d.org, .int .i64 d.format, .int .i64 d.length, .int .i64 d.block, .int .i64 d.keyAt, .int .i64 d.keyLength, .int .i64 d.interval, .int .i64 d.area, .int .i64 d.freeInterval, .int .i64 d.freeArea, .int .i64 d.base, .int .i64 d.altAt, .int .i64 d.altLength, .bool d.unique, .int .i64 d.cls, .string ⟨d.volume.toArray⟩, .string ⟨d.owner.toArray⟩, .int .i64 d.created, .int .i64 d.expires, .bool d.archived] 23)
 have HE : Hid (keyedB d = (validB d && decide (d.org = 3))) := Lib.hid rfl
 have ho : (d.org == 3) = decide (d.org = 3) := rfl
 go_enter Tryz.func16, Tryz.ntmps16
 go_upto_region 1 with (fail)
 refine wp_name (fun w0 => Ext w w0 ∧ DsAt w0 w.heap.size d) ⟨Ext.alloc _ _, hb⟩ ?_
 rintro w0 ⟨he0, hb0⟩
 clear hb
 cases hv : validB d
 · rw [hv] at HE Hv
   clear hv
   go_wp2_with (first | (refine wpList_ds rfl (.tmp 1) rfl _ rfl d hb0 ?_) | (go_at_call 23; refine (Hv.out _).mono ?_; rintro e w1 ⟨rfl, he1⟩))
   go_ret
   exact ⟨by rw [HE.out]; rfl, he0.trans he1⟩
 · rw [hv] at HE Hv
   clear hv
   go_wp2_with (first | (refine wpList_ds rfl (.tmp 1) rfl _ rfl d hb0 ?_) | (go_at_call 23; refine (Hv.out _).mono ?_; rintro e w1 ⟨rfl, he1⟩; have c1 := Blk.val (he1.blk _ _ hb0) 1 _ rfl; have hl := Blk.lt (he1.blk _ _ hb0)))
   go_ret
   exact ⟨by rw [HE.out]; rfl, he0.trans he1⟩
set_option maxRecDepth 100000 in
theorem allowedA_any (d : DS) (s : List UInt8) (hd : keyedB d = true) (w : World) : Calls Tryz.prog 39 #[.agg #[.int .i64 d.id, .int .i64 d.org, .int .i64 d.format, .int .i64 d.length, .int .i64 d.block, .int .i64 d.keyAt, .int .i64 d.keyLength, .int .i64 d.interval, .int .i64 d.area, .int .i64 d.freeInterval, .int .i64 d.freeArea, .int .i64 d.base, .int .i64 d.altAt, .int .i64 d.altLength, .bool d.unique, .int .i64 d.cls, .string ⟨d.volume.toArray⟩, .string ⟨d.owner.toArray⟩, .int .i64 d.created, .int .i64 d.expires, .bool d.archived], .string ⟨s.toArray⟩] w fun e w' => e = .returned (.bool (recB d s)) ∧ Ext w w' := by
 obtain ⟨h1, h2, h3, h4, h5, h6, h7, h8, h9⟩ := keyed_spec hd
 have hz := isSize_le (valid_spec h1).2.2.1
 have hb := Blk.new w (.cells #[.int .i64 d.id, .int .i64 d.org, .int .i64 d.format, .int .i64 d.length, .int .i64 d.block, .int .i64 d.keyAt, .int .i64 d.keyLength, .int .i64 d.interval, .int .i64 d.area, .int .i64 d.freeInterval, .int .i64 d.freeArea, .int .i64 d.base, .int .i64 d.altAt, .int .i64 d.altLength, .bool d.unique, .int .i64 d.cls, .string ⟨d.volume.toArray⟩, .string ⟨d.owner.toArray⟩, .int .i64 d.created, .int .i64 d.expires, .bool d.archived] 23)
 have hw : IntKind.i64.wrap (d.keyAt + d.keyLength) = d.keyAt + d.keyLength := IntWalk.i64_in _ (by omega)
 have c3 := Blk.val hb 3 _ rfl
 have c5 := Blk.val hb 5 _ rfl
 have c6 := Blk.val hb 6 _ rfl
 by_cases a1 : d.keyAt + d.keyLength ≤ s.length
 · have i1 : decide (d.keyAt + d.keyLength ≤ (s.length : Int)) = true := decide_eq_true a1
   have HE : Hid (recB d s = decide ((s.length : Int) ≤ d.length)) := Lib.hid (by unfold recB; rw [i1]; rfl)
   go_enter Tryz.func39, Tryz.ntmps39
   go_wp2
   go_ret
   exact ⟨by rw [HE.out]; rfl, Ext.alloc _ _⟩
 · have i1 : decide (d.keyAt + d.keyLength ≤ (s.length : Int)) = false := decide_eq_false a1
   have HE : Hid (recB d s = false) := Lib.hid (by unfold recB; rw [i1]; rfl)
   go_enter Tryz.func39, Tryz.ntmps39
   go_wp2
   go_ret
   exact ⟨by rw [HE.out]; rfl, Ext.alloc _ _⟩
set_option maxRecDepth 100000 in
theorem IsRecordR_any (d : DS) (s : List UInt8) (hd : keyedB d = true) (w : World) : Calls Tryz.prog 42 #[.agg #[.int .i64 d.id, .int .i64 d.org, .int .i64 d.format, .int .i64 d.length, .int .i64 d.block, .int .i64 d.keyAt, .int .i64 d.keyLength, .int .i64 d.interval, .int .i64 d.area, .int .i64 d.freeInterval, .int .i64 d.freeArea, .int .i64 d.base, .int .i64 d.altAt, .int .i64 d.altLength, .bool d.unique, .int .i64 d.cls, .string ⟨d.volume.toArray⟩, .string ⟨d.owner.toArray⟩, .int .i64 d.created, .int .i64 d.expires, .bool d.archived], .string ⟨s.toArray⟩] w fun e w' => e = .returned (.bool (recB d s)) ∧ Ext w w' := by
 obtain ⟨h1, h2, h3, h4, h5, h6, h7, h8, h9⟩ := keyed_spec hd
 have hz := isSize_le (valid_spec h1).2.2.1
 have hb := Blk.new w (.cells #[.int .i64 d.id, .int .i64 d.org, .int .i64 d.format, .int .i64 d.length, .int .i64 d.block, .int .i64 d.keyAt, .int .i64 d.keyLength, .int .i64 d.interval, .int .i64 d.area, .int .i64 d.freeInterval, .int .i64 d.freeArea, .int .i64 d.base, .int .i64 d.altAt, .int .i64 d.altLength, .bool d.unique, .int .i64 d.cls, .string ⟨d.volume.toArray⟩, .string ⟨d.owner.toArray⟩, .int .i64 d.created, .int .i64 d.expires, .bool d.archived] 23)
 have hw : IntKind.i64.wrap (d.keyAt + d.keyLength) = d.keyAt + d.keyLength := IntWalk.i64_in _ (by omega)
 have c3 := Blk.val hb 3 _ rfl
 have c5 := Blk.val hb 5 _ rfl
 have c6 := Blk.val hb 6 _ rfl
 by_cases a1 : d.keyAt + d.keyLength ≤ s.length
 · have i1 : decide (d.keyAt + d.keyLength ≤ (s.length : Int)) = true := decide_eq_true a1
   have HE : Hid (recB d s = decide ((s.length : Int) ≤ d.length)) := Lib.hid (by unfold recB; rw [i1]; rfl)
   go_enter Tryz.func42, Tryz.ntmps42
   go_wp2
   go_ret
   exact ⟨by rw [HE.out]; rfl, Ext.alloc _ _⟩
 · have i1 : decide (d.keyAt + d.keyLength ≤ (s.length : Int)) = false := decide_eq_false a1
   have HE : Hid (recB d s = false) := Lib.hid (by unfold recB; rw [i1]; rfl)
   go_enter Tryz.func42, Tryz.ntmps42
   go_wp2
   go_ret
   exact ⟨by rw [HE.out]; rfl, Ext.alloc _ _⟩
set_option maxRecDepth 100000 in
theorem keyOf_any (d : DS) (s : List UInt8) (hd : keyedB d = true) (hs : recB d s = true) (w : World) : Calls Tryz.prog 40 #[.agg #[.int .i64 d.id, .int .i64 d.org, .int .i64 d.format, .int .i64 d.length, .int .i64 d.block, .int .i64 d.keyAt, .int .i64 d.keyLength, .int .i64 d.interval, .int .i64 d.area, .int .i64 d.freeInterval, .int .i64 d.freeArea, .int .i64 d.base, .int .i64 d.altAt, .int .i64 d.altLength, .bool d.unique, .int .i64 d.cls, .string ⟨d.volume.toArray⟩, .string ⟨d.owner.toArray⟩, .int .i64 d.created, .int .i64 d.expires, .bool d.archived], .string ⟨s.toArray⟩] w fun e w' => e = .returned (.string ⟨(keyD d s).toArray⟩) ∧ Ext w w' := by
 obtain ⟨h1, h2, h3, h4, h5, h6, h7, h8, h9⟩ := keyed_spec hd
 have hz := isSize_le (valid_spec h1).2.2.1
 have hr := recB_spec hs
 have hb := Blk.new w (.cells #[.int .i64 d.id, .int .i64 d.org, .int .i64 d.format, .int .i64 d.length, .int .i64 d.block, .int .i64 d.keyAt, .int .i64 d.keyLength, .int .i64 d.interval, .int .i64 d.area, .int .i64 d.freeInterval, .int .i64 d.freeArea, .int .i64 d.base, .int .i64 d.altAt, .int .i64 d.altLength, .bool d.unique, .int .i64 d.cls, .string ⟨d.volume.toArray⟩, .string ⟨d.owner.toArray⟩, .int .i64 d.created, .int .i64 d.expires, .bool d.archived] 23)
 have hw : IntKind.i64.wrap (d.keyAt + d.keyLength) = d.keyAt + d.keyLength := IntWalk.i64_in _ (by omega)
 have c5 := Blk.val hb 5 _ rfl
 have c6 := Blk.val hb 6 _ rfl
 have i1 : (0 : Int) ≤ d.keyAt + d.keyLength := by omega
 have i2 : d.keyAt + d.keyLength ≤ (s.length : Int) := hr.1
 have i3 : d.keyAt ≤ d.keyAt + d.keyLength := by omega
 have HE : Hid (keyD d s = (s.drop d.keyAt.toNat).take d.keyLength.toNat) := Lib.hid rfl
 have HT : Hid ((d.keyAt + d.keyLength).toNat - d.keyAt.toNat = d.keyLength.toNat) := Lib.hid (by omega)
 go_enter Tryz.func40, Tryz.ntmps40
 go_wp2
 go_ret
 exact ⟨by rw [HE.out, ← HT.out]; rfl, Ext.alloc _ _⟩
set_option maxRecDepth 100000 in
theorem keyOfR_any (d : DS) (s : List UInt8) (hd : keyedB d = true) (hs : recB d s = true) (w : World) : Calls Tryz.prog 43 #[.agg #[.int .i64 d.id, .int .i64 d.org, .int .i64 d.format, .int .i64 d.length, .int .i64 d.block, .int .i64 d.keyAt, .int .i64 d.keyLength, .int .i64 d.interval, .int .i64 d.area, .int .i64 d.freeInterval, .int .i64 d.freeArea, .int .i64 d.base, .int .i64 d.altAt, .int .i64 d.altLength, .bool d.unique, .int .i64 d.cls, .string ⟨d.volume.toArray⟩, .string ⟨d.owner.toArray⟩, .int .i64 d.created, .int .i64 d.expires, .bool d.archived], .string ⟨s.toArray⟩] w fun e w' => e = .returned (.string ⟨(keyD d s).toArray⟩) ∧ Ext w w' := by
 obtain ⟨h1, h2, h3, h4, h5, h6, h7, h8, h9⟩ := keyed_spec hd
 have hz := isSize_le (valid_spec h1).2.2.1
 have hr := recB_spec hs
 have hb := Blk.new w (.cells #[.int .i64 d.id, .int .i64 d.org, .int .i64 d.format, .int .i64 d.length, .int .i64 d.block, .int .i64 d.keyAt, .int .i64 d.keyLength, .int .i64 d.interval, .int .i64 d.area, .int .i64 d.freeInterval, .int .i64 d.freeArea, .int .i64 d.base, .int .i64 d.altAt, .int .i64 d.altLength, .bool d.unique, .int .i64 d.cls, .string ⟨d.volume.toArray⟩, .string ⟨d.owner.toArray⟩, .int .i64 d.created, .int .i64 d.expires, .bool d.archived] 23)
 have hw : IntKind.i64.wrap (d.keyAt + d.keyLength) = d.keyAt + d.keyLength := IntWalk.i64_in _ (by omega)
 have c5 := Blk.val hb 5 _ rfl
 have c6 := Blk.val hb 6 _ rfl
 have i1 : (0 : Int) ≤ d.keyAt + d.keyLength := by omega
 have i2 : d.keyAt + d.keyLength ≤ (s.length : Int) := hr.1
 have i3 : d.keyAt ≤ d.keyAt + d.keyLength := by omega
 have HE : Hid (keyD d s = (s.drop d.keyAt.toNat).take d.keyLength.toNat) := Lib.hid rfl
 have HT : Hid ((d.keyAt + d.keyLength).toNat - d.keyAt.toNat = d.keyLength.toNat) := Lib.hid (by omega)
 go_enter Tryz.func43, Tryz.ntmps43
 go_wp2
 go_ret
 exact ⟨by rw [HE.out, ← HT.out]; rfl, Ext.alloc _ _⟩
end Go.Proofs.YtifmbcjbccedfaaGreatDoor
