/- A part of the proof. -/
import Derived.Test.YtifmbcjbccedfaaGreatDoorAW0
import Derived.SliceStrings
import Derived.OpenShut
import Derived.ChangeMaps5
import Derived.Deep.Slices
import Derived.Deep.Fields
import Derived.ChangeSame
set_option linter.unusedSimpArgs false
set_option linter.unusedVariables false
namespace Go.Proofs.YtifmbcjbccedfaaGreatDoor
open Go.ChangeShapes Go.WideShapes Go.RowKit Dsd
end Go.Proofs.YtifmbcjbccedfaaGreatDoor
namespace Go.Proofs.YtifmbcjbccedfaaGreatDoor
open Go.ChangeShapes Go.WideShapes Go.Deep Go.RowKit Dsd
theorem dsTypes : (Tryz.prog.fieldsOf 23).toList.map (fun f => (f.offset, Tryz.prog.cellsOf f.type, Tryz.prog.underlying f.type)) = [(0, 1, some (.int .i64)), (1, 1, some (.int .i64)), (2, 1, some (.int .i64)), (3, 1, some (.int .i64)), (4, 1, some (.int .i64)), (5, 1, some (.int .i64)), (6, 1, some (.int .i64)), (7, 1, some (.int .i64)), (8, 1, some (.int .i64)), (9, 1, some (.int .i64)), (10, 1, some (.int .i64)), (11, 1, some (.int .i64)), (12, 1, some (.int .i64)), (13, 1, some (.int .i64)), (14, 1, some .bool), (15, 1, some (.int .i64)), (16, 1, some .string), (17, 1, some .string), (18, 1, some (.int .i64)), (19, 1, some (.int .i64)), (20, 1, some .bool)] := by kernel_rfl
set_option maxRecDepth 100000 in
set_option maxHeartbeats 2000000 in
theorem open_ds {H : Type} {enc : TypeId × Value → H} {w : World} {r : Reach} {b0 base : Nat} {spare : Nat → Bool} {held : Bool} {v : Value} {d : DataW H} {ps : List MemPlace}
   (hv : Value.okWide Tryz.prog w r b0 23 v) (h : DataW.Trod enc Tryz.prog w base spare held 23 v d ps) : ∃ x : DS, v = .agg #[.int .i64 x.id, .int .i64 x.org, .int .i64 x.format, .int .i64 x.length, .int .i64 x.block, .int .i64 x.keyAt, .int .i64 x.keyLength, .int .i64 x.interval, .int .i64 x.area, .int .i64 x.freeInterval, .int .i64 x.freeArea, .int .i64 x.base, .int .i64 x.altAt, .int .i64 x.altLength, .bool x.unique, .int .i64 x.cls, .string ⟨x.volume.toArray⟩, .string ⟨x.owner.toArray⟩, .int .i64 x.created, .int .i64 x.expires, .bool x.archived] := by
 have hfs := dsTypes
 obtain ⟨cs, rfl, hsz⟩ := okWide_struct dsDesc hv
 obtain ⟨fuel, hf⟩ := h
 obtain ⟨xs, n, _, _, _, hlen, hg⟩ := DataW.trod_struct dsDesc hf
 have hC : Tryz.prog.cellsOf 23 = 21 := by kernel_rfl
 have hF : (Tryz.prog.fieldsOf 23).size = 21 := by kernel_rfl
 rw [hC] at hsz
 rw [hF] at hlen
 generalize Tryz.prog.fieldsOf 23 = fs at *
 obtain ⟨fl⟩ := fs
 obtain ⟨l⟩ := cs
 simp only [List.size_toArray] at hsz hF
 match l, hsz, fl, hF with
 | [c0, c1, c2, c3, c4, c5, c6, c7, c8, c9, c10, c11, c12, c13, c14, c15, c16, c17, c18, c19, c20], _, [f0, f1, f2, f3, f4, f5, f6, f7, f8, f9, f10, f11, f12, f13, f14, f15, f16, f17, f18, f19, f20], _ =>
   simp only [List.map_cons, List.map_nil, List.cons.injEq, Prod.mk.injEq, and_true] at hfs
   obtain ⟨⟨o0, k0, u0⟩, ⟨o1, k1, u1⟩, ⟨o2, k2, u2⟩, ⟨o3, k3, u3⟩, ⟨o4, k4, u4⟩, ⟨o5, k5, u5⟩, ⟨o6, k6, u6⟩, ⟨o7, k7, u7⟩, ⟨o8, k8, u8⟩, ⟨o9, k9, u9⟩, ⟨o10, k10, u10⟩, ⟨o11, k11, u11⟩, ⟨o12, k12, u12⟩, ⟨o13, k13, u13⟩, ⟨o14, k14, u14⟩, ⟨o15, k15, u15⟩, ⟨o16, k16, u16⟩, ⟨o17, k17, u17⟩, ⟨o18, k18, u18⟩, ⟨o19, k19, u19⟩, o20, k20, u20⟩ := hfs
   have h0 := hg 0 f0 rfl
   rw [o0, k0, List.getElem?_eq_getElem (by omega)] at h0
   obtain ⟨a0, e0, _⟩ := DataW.trod_int u0 h0
   have h1 := hg 1 f1 rfl
   rw [o1, k1, List.getElem?_eq_getElem (by omega)] at h1
   obtain ⟨a1, e1, _⟩ := DataW.trod_int u1 h1
   have h2 := hg 2 f2 rfl
   rw [o2, k2, List.getElem?_eq_getElem (by omega)] at h2
   obtain ⟨a2, e2, _⟩ := DataW.trod_int u2 h2
   have h3 := hg 3 f3 rfl
   rw [o3, k3, List.getElem?_eq_getElem (by omega)] at h3
   obtain ⟨a3, e3, _⟩ := DataW.trod_int u3 h3
   have h4 := hg 4 f4 rfl
   rw [o4, k4, List.getElem?_eq_getElem (by omega)] at h4
   obtain ⟨a4, e4, _⟩ := DataW.trod_int u4 h4
   have h5 := hg 5 f5 rfl
   rw [o5, k5, List.getElem?_eq_getElem (by omega)] at h5
   obtain ⟨a5, e5, _⟩ := DataW.trod_int u5 h5
   have h6 := hg 6 f6 rfl
   rw [o6, k6, List.getElem?_eq_getElem (by omega)] at h6
   obtain ⟨a6, e6, _⟩ := DataW.trod_int u6 h6
   have h7 := hg 7 f7 rfl
   rw [o7, k7, List.getElem?_eq_getElem (by omega)] at h7
   obtain ⟨a7, e7, _⟩ := DataW.trod_int u7 h7
   have h8 := hg 8 f8 rfl
   rw [o8, k8, List.getElem?_eq_getElem (by omega)] at h8
   obtain ⟨a8, e8, _⟩ := DataW.trod_int u8 h8
   have h9 := hg 9 f9 rfl
   rw [o9, k9, List.getElem?_eq_getElem (by omega)] at h9
   obtain ⟨a9, e9, _⟩ := DataW.trod_int u9 h9
   have h10 := hg 10 f10 rfl
   rw [o10, k10, List.getElem?_eq_getElem (by omega)] at h10
   obtain ⟨a10, e10, _⟩ := DataW.trod_int u10 h10
   have h11 := hg 11 f11 rfl
   rw [o11, k11, List.getElem?_eq_getElem (by omega)] at h11
   obtain ⟨a11, e11, _⟩ := DataW.trod_int u11 h11
   have h12 := hg 12 f12 rfl
   rw [o12, k12, List.getElem?_eq_getElem (by omega)] at h12
   obtain ⟨a12, e12, _⟩ := DataW.trod_int u12 h12
   have h13 := hg 13 f13 rfl
   rw [o13, k13, List.getElem?_eq_getElem (by omega)] at h13
   obtain ⟨a13, e13, _⟩ := DataW.trod_int u13 h13
   have h14 := hg 14 f14 rfl
   rw [o14, k14, List.getElem?_eq_getElem (by omega)] at h14
   obtain ⟨a14, e14, _⟩ := DataW.trod_bool u14 h14
   have h15 := hg 15 f15 rfl
   rw [o15, k15, List.getElem?_eq_getElem (by omega)] at h15
   obtain ⟨a15, e15, _⟩ := DataW.trod_int u15 h15
   have h16 := hg 16 f16 rfl
   rw [o16, k16, List.getElem?_eq_getElem (by omega)] at h16
   obtain ⟨a16, e16, _, _⟩ := DataW.trod_string u16 h16
   have h17 := hg 17 f17 rfl
   rw [o17, k17, List.getElem?_eq_getElem (by omega)] at h17
   obtain ⟨a17, e17, _, _⟩ := DataW.trod_string u17 h17
   have h18 := hg 18 f18 rfl
   rw [o18, k18, List.getElem?_eq_getElem (by omega)] at h18
   obtain ⟨a18, e18, _⟩ := DataW.trod_int u18 h18
   have h19 := hg 19 f19 rfl
   rw [o19, k19, List.getElem?_eq_getElem (by omega)] at h19
   obtain ⟨a19, e19, _⟩ := DataW.trod_int u19 h19
   have h20 := hg 20 f20 rfl
   rw [o20, k20, List.getElem?_eq_getElem (by omega)] at h20
   obtain ⟨a20, e20, _⟩ := DataW.trod_bool u20 h20
   simp only [Value.cells, List.drop_succ_cons, List.drop_zero, List.take_succ_cons, List.take_zero, List.cons.injEq, and_true] at e0 e1 e2 e3 e4 e5 e6 e7 e8 e9 e10 e11 e12 e13 e14 e15 e16 e17 e18 e19 e20
   subst e0 e1 e2 e3 e4 e5 e6 e7 e8 e9 e10 e11 e12 e13 e14 e15 e16 e17 e18 e19 e20
   exact ⟨⟨a0, a1, a2, a3, a4, a5, a6, a7, a8, a9, a10, a11, a12, a13, a14, a15, a16.data.toList, a17.data.toList, a18, a19, a20⟩, rfl⟩
end Go.Proofs.YtifmbcjbccedfaaGreatDoor
namespace Go.Proofs.YtifmbcjbccedfaaGreatDoor
open Go.ChangeShapes Go.WideShapes Go.Deep Go.RowKit Dsd
section
variable {H : Type} {enc : TypeId × Value → H} {P : Program} {w : World} {base : Nat} {spare : Nat → Bool} {held : Bool}
theorem open_slice_fields {t e : TypeId} {fs : Array Field} {fuel : Nat} {cs : List Value} {x : DataW H × List MemPlace} (ht : P.underlying t = some (.slice e)) (he : P.underlying e = some (.struct fs))
   (hone : oneCellFields P fs = true) (hC : P.cellsOf e = fs.size) (h : DataW.trod enc P w base spare held fuel t cs = some x) :
   (cs = [.slice none 0 0] ∧ x = (.nil, [])) ∨
   ∃ (a : Addr) (len cap m : Nat) (D : Nat → DataW H) (Pl : Nat → List MemPlace), cs = [.slice (some a) len cap] ∧ base ≤ a.block ∧ len ≤ cap ∧ cap ≤ maxLen ∧ m = (if spare a.block then cap else len) ∧
     x = (.slice ((List.range len).map D) ((List.range (m - len)).map fun j => D (len + j)), MemPlace.row a (m * fs.size) ++ (List.range m).flatMap Pl) ∧
     ∀ i, i < m → ∃ (ys : List (DataW H × List MemPlace)) (n : Nat), D i = .agg (ys.map (·.1)) ∧ Pl i = ys.flatMap (·.2) ∧ ys.length = fs.size ∧
       ∀ (j : Nat) (f : Field), fs[j]? = some f → ∃ (v : Value) (y : DataW H × List MemPlace), w.cell? (a.add (i * fs.size + j)) = some v ∧ ys[j]? = some y ∧ DataW.trod enc P w base spare held n f.type [v] = some y := by
 rcases open_slice ht h with h0 | ⟨a, len, cap, m, n, D, Pl, hcs, hb, hl, hm, hmm, hx, hi⟩
 · exact .inl h0
 · refine .inr ⟨a, len, cap, m, D, Pl, hcs, hb, hl, hm, hmm, by rw [hC] at hx; exact hx, fun i him => ?_⟩
   obtain ⟨cs', hc, ht'⟩ := hi i him
   rw [hC] at hc
   obtain ⟨ys, n', hn', hy, hlen, hyl, hf⟩ := DataW.trod_struct he ht'
   obtain ⟨_, hcl, hat⟩ := World.cells?_some hc
   simp only [Prod.mk.injEq] at hy
   refine ⟨ys, n', hy.1, hy.2, hyl, fun j f hj => ?_⟩
   obtain ⟨ho, hk⟩ := hone_of hone j f hj
   have hjl : j < fs.size := (Array.getElem?_eq_some_iff.1 hj).1
   have hcell := hat j hjl
   have hv : cs'[j]? = some (cs'[j]'(by omega)) := List.getElem?_eq_getElem (by omega)
   have h1 := hf j f hj
   rw [ho, hk] at h1
   have hone' : (cs'.drop j).take 1 = [cs'[j]'(by omega)] := by
     rw [List.drop_eq_getElem_cons (by omega)]
     rfl
   rw [hone'] at h1
   have hys : ys[j]? = some (ys[j]'(by omega)) := List.getElem?_eq_getElem (by omega)
   refine ⟨_, _, ?_, hys, h1.trans hys⟩
   rw [← Go.Deep.add_add, hcell, hv]
end
def cellBool (w : World) (a : Addr) : Bool := match w.cell? a with
 | some (.bool b) => b
 | _ => false
def cellStr (w : World) (a : Addr) : List UInt8 := match w.cell? a with
 | some (.string s) => s.data.toList
 | _ => []
theorem cellBool_of {w : World} {a : Addr} {b : Bool} (h : w.cell? a = some (.bool b)) : w.cell? a = some (.bool (cellBool w a)) := by unfold cellBool; rw [h]
theorem cellStr_of {w : World} {a : Addr} {s : ByteArray} (h : w.cell? a = some (.string s)) : w.cell? a = some (.string ⟨(cellStr w a).toArray⟩) ∧ (cellStr w a).length = s.size := by
 unfold cellStr; rw [h]; simp
theorem cell_spot {w : World} {a : Addr} {v : Value} (h : w.cell? a = some v) : a.spot = none ∧ a.block < w.heap.size := by
 unfold World.cell? at h
 split at h
 · rename_i hx
   split at h
   · cases h
   · rename_i h2
     exact ⟨by simpa using h2, (Array.getElem?_eq_some_iff.1 hx).1⟩
 · cases h
end Go.Proofs.YtifmbcjbccedfaaGreatDoor
namespace Go.Proofs.YtifmbcjbccedfaaGreatDoor
open Go.ChangeShapes Go.WideShapes Go.Deep Go.RowKit Dsd
theorem aopTypes : (Tryz.prog.fieldsOf 85).toList.map (fun f => f.type) = [9, 4] := by kernel_rfl
theorem aopDesc : Tryz.prog.underlying 85 = some (.struct (Tryz.prog.fieldsOf 85)) := by kernel_rfl
theorem open_aops {H : Type} {enc : TypeId × Value → H} {w : World} {base : Nat} {spare : Nat → Bool} {held : Bool} {t : TypeId} {a : Option Addr} {len cap : Nat} {d : DataW H} {ps : List MemPlace}
   (ht : Tryz.prog.underlying t = some (.slice 85)) (h : DataW.Trod enc Tryz.prog w base spare held t (.slice a len cap) d ps) :
   ∃ L : List AOp, AOps w a L ∧ L.length = len ∧ len ≤ cap ∧ cap ≤ maxLen := by
 obtain ⟨fuel, hf⟩ := h
 have hfs := aopTypes
 have hsz : (Tryz.prog.fieldsOf 85).size = 2 := by kernel_rfl
 rcases open_slice_fields ht aopDesc (by kernel_rfl) (by kernel_rfl) hf with ⟨hcs, _⟩ | ⟨x, l, c, m, D, Pl, hcs, _, hl, hm, hmm, _, hi⟩
 · simp [Value.cells] at hcs
   obtain ⟨rfl, rfl, rfl⟩ := hcs
   exact ⟨[], .inl rfl, rfl, Nat.le_refl _, by simp⟩
 · simp [Value.cells] at hcs
   obtain ⟨rfl, rfl, rfl⟩ := hcs
   have hlm : len ≤ m := by rw [hmm]; split <;> omega
   have hcell : ∀ i, i < len → (∃ s : ByteArray, w.cell? (x.add (i * 2)) = some (.string s)) ∧ ∃ u : Bool, w.cell? (x.add (i * 2 + 1)) = some (.bool u) := by
     intro i hil
     obtain ⟨ys, n, _, _, _, hj⟩ := hi i (by omega)
     rw [hsz] at hj
     generalize Tryz.prog.fieldsOf 85 = fs at *
     have g0 := congrArg (fun l => l[0]?) hfs
     have g1 := congrArg (fun l => l[1]?) hfs
     simp at g0 g1
     obtain ⟨f0, e0, t0⟩ := g0
     obtain ⟨f1, e1, t1⟩ := g1
     obtain ⟨v0, y0, c0, _, h0⟩ := hj 0 f0 e0
     obtain ⟨v1, y1, c1, _, h1⟩ := hj 1 f1 e1
     rw [t0] at h0
     rw [t1] at h1
     obtain ⟨s, hs, _, _⟩ := DataW.trod_string Tryz.underlying9 h0
     obtain ⟨b, hb, _⟩ := DataW.trod_bool Tryz.underlying4 h1
     simp at hb hs
     subst hb hs
     exact ⟨⟨s, c0⟩, b, c1⟩
   refine ⟨(List.range len).map fun i => (cellStr w (x.add (i * 2)), cellBool w (x.add (i * 2 + 1))), ?_, by simp, hl, hm⟩
   by_cases h0 : len = 0
   · subst h0; exact .inl (by simp)
   · obtain ⟨⟨s, c0⟩, _⟩ := hcell 0 (by omega)
     have hx := cell_spot c0
     simp only [Nat.zero_mul, Addr.add, if_true] at hx
     obtain ⟨b, off, sp⟩ := x
     simp only at hx
     obtain ⟨rfl, hb⟩ := hx
     refine .inr ⟨b, off, rfl, hb, fun i hil => ?_⟩
     simp only [List.length_map, List.length_range] at hil
     obtain ⟨⟨s, c0⟩, u, c1⟩ := hcell i hil
     have k0 := (cellStr_of c0).1
     have k1 := cellBool_of c1
     rw [addr_add] at k0 k1
     simp only [List.getD, List.getElem?_map, List.getElem?_range hil, Option.map_some, Option.getD_some, addr_add]
     exact ⟨k0, by rw [Nat.add_assoc]; exact k1⟩
end Go.Proofs.YtifmbcjbccedfaaGreatDoor
