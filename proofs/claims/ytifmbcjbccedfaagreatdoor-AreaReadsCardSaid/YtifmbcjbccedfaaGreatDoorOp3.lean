/- A part of the proof. -/
import Derived.Test.YtifmbcjbccedfaaGreatDoorAO
import Derived.SliceStrings
import Derived.OpenShut
import Derived.ChangeMaps5
import Derived.Deep.Slices
import Derived.Deep.Fields
import Derived.ChangeSame
set_option linter.unusedSimpArgs false
set_option linter.unusedVariables false
namespace Go.Proofs.YtifmbcjbccedfaaGreatDoor
open Go.ChangeShapes Go.WideShapes Go.RowKit Dsd
theorem open_strs {H : Type} {enc : TypeId × Value → H} {P : Program} {w : World} {base : Nat} {spare : Nat → Bool} {held : Bool} {t e : TypeId} {a : Option Addr} {len cap : Nat} {d : DataW H} {ps : List MemPlace}
   (ht : P.underlying t = some (.slice e)) (he : P.underlying e = some .string) (hc : P.cellsOf e = 1) (h : DataW.Trod enc P w base spare held t (.slice a len cap) d ps) :
   ∃ L : List (List UInt8), Strs w a L ∧ L.length = len ∧ len ≤ cap ∧ cap ≤ maxLen ∧ ∀ s ∈ L, s.length ≤ maxLen := by
 obtain ⟨fuel, hf⟩ := h
 rcases open_strings ht he hc hf with ⟨hcs, _⟩ | ⟨x, l, c, ss, hcs, _, hl, hm, hsl, _, hcell, hw⟩
 · simp [Value.cells] at hcs
   obtain ⟨rfl, rfl, rfl⟩ := hcs
   exact ⟨[], .inl rfl, rfl, Nat.le_refl _, by simp, by simp⟩
 · simp [Value.cells] at hcs
   obtain ⟨rfl, rfl, rfl⟩ := hcs
   have hls : len ≤ ss.length := by rw [hsl]; split <;> omega
   have hll : ((ss.take len).map fun s => s.data.toList).length = len := by simp; omega
   refine ⟨(ss.take len).map fun s => s.data.toList, ?_, hll, hl, hm, ?_⟩
   · by_cases h0 : len = 0
     · subst h0; exact .inl (by simp)
     · have c0 := hcell 0 (by omega)
       have hsp : x.spot = none := by
         simp only [Addr.add, if_true] at c0
         unfold World.cell? at c0
         split at c0
         · split at c0
           · cases c0
           · rename_i h; simpa using h
         · cases c0
       obtain ⟨b, off, sp⟩ := x
       simp only at hsp
       subst hsp
       have hb : b < w.heap.size := by
         simp only [Addr.add, if_true] at c0
         unfold World.cell? at c0
         split at c0
         · rename_i h; exact (Array.getElem?_eq_some_iff.1 h).1
         · cases c0
       refine .inr ⟨b, off, rfl, hb, fun i hi => ?_⟩
       simp only [List.length_map, List.length_take] at hi
       have := hcell i (by omega)
       rw [addr_add] at this
       rw [this]
       have hi2 : i < ss.length := by omega
       have hi3 : i < len := by omega
       simp [List.getD, hi2, hi3]
   · intro s hs
     simp only [List.mem_map] at hs
     obtain ⟨s', hs', rfl⟩ := hs
     have := hw s' (List.mem_of_mem_take hs')
     have e : s'.data.toList.length = s'.size := rfl
     rw [e]; exact this
end Go.Proofs.YtifmbcjbccedfaaGreatDoor
namespace Go.Proofs.YtifmbcjbccedfaaGreatDoor
open Go.ChangeShapes Go.WideShapes Go.Deep Go.RowKit Dsd
theorem dsTypes : (Tryz.prog.fieldsOf 23).toList.map (fun f => (f.offset, Tryz.prog.cellsOf f.type, Tryz.prog.underlying f.type)) = [(0, 1, some (.int .i64)), (1, 1, some (.int .i64)), (2, 1, some (.int .i64)), (3, 1, some (.int .i64)), (4, 1, some (.int .i64)), (5, 1, some (.int .i64)), (6, 1, some (.int .i64)), (7, 1, some (.int .i64)), (8, 1, some (.int .i64)), (9, 1, some (.int .i64)), (10, 1, some (.int .i64)), (11, 1, some (.int .i64)), (12, 1, some (.int .i64)), (13, 1, some (.int .i64)), (14, 1, some .bool), (15, 1, some (.int .i64)), (16, 1, some .string), (17, 1, some .string), (18, 1, some (.int .i64)), (19, 1, some (.int .i64)), (20, 1, some .bool)] := by kernel_rfl
set_option maxRecDepth 100000 in
set_option maxHeartbeats 2000000 in
theorem open_ds {H : Type} {enc : TypeId × Value → H} {w : World} {r : Reach} {b0 base : Nat} {spare : Nat → Bool} {held : Bool} {v : Value} {d : DataW H} {ps : List MemPlace}
   (hv : Value.okWide Tryz.prog w r b0 23 v) (h : DataW.Trod enc Tryz.prog w base spare held 23 v d ps) : ∃ x : DS, v = .agg #[.int .i64 x.id, .int .i64 x.org, .int .i64 x.format, .int .i64 x.length, .int .i64 x.block, .int .i64 x.keyAt, .int .i64 x.keyLength, .int .i64 x.interval, .int .i64 x.area, .int .i64 x.freeInterval, .int .i64 x.freeArea, .int .i64 x.base, .int .i64 x.altAt, .int .i64 x.altLength, .bool x.unique, .int .i64 x.cls, .string ⟨x.volume.toArray⟩, .string ⟨x.owner.toArray⟩, .int .i64 x.created, .int .i64 x.expires, .bool x.archived] := by
 have hfs := dsTypes
 obtain ⟨cs, rfl, hsz⟩ := okWide_struct dsDesc hv
 obtain ⟨fuel, hf⟩ := h
 obtain ⟨xs, n, _, _, _, hlen, hg⟩ := DataW.trod_struct dsDesc hf
 have hC : Tryz.prog.cellsOf 23 = 21 := by kernel_rfl
 have hF : (Tryz.prog.fieldsOf 23).size = 21 := by kernel_rfl
 rw [hC] at hsz
 rw [hF] at hlen
 generalize Tryz.prog.fieldsOf 23 = fs at *
 obtain ⟨fl⟩ := fs
 obtain ⟨l⟩ := cs
 simp only [List.size_toArray] at hsz hF
 match l, hsz, fl, hF with
 | [c0, c1, c2, c3, c4, c5, c6, c7, c8, c9, c10, c11, c12, c13, c14, c15, c16, c17, c18, c19, c20], _, [f0, f1, f2, f3, f4, f5, f6, f7, f8, f9, f10, f11, f12, f13, f14, f15, f16, f17, f18, f19, f20], _ =>
   simp only [List.map_cons, List.map_nil, List.cons.injEq, Prod.mk.injEq, and_true] at hfs
   obtain ⟨⟨o0, k0, u0⟩, ⟨o1, k1, u1⟩, ⟨o2, k2, u2⟩, ⟨o3, k3, u3⟩, ⟨o4, k4, u4⟩, ⟨o5, k5, u5⟩, ⟨o6, k6, u6⟩, ⟨o7, k7, u7⟩, ⟨o8, k8, u8⟩, ⟨o9, k9, u9⟩, ⟨o10, k10, u10⟩, ⟨o11, k11, u11⟩, ⟨o12, k12, u12⟩, ⟨o13, k13, u13⟩, ⟨o14, k14, u14⟩, ⟨o15, k15, u15⟩, ⟨o16, k16, u16⟩, ⟨o17, k17, u17⟩, ⟨o18, k18, u18⟩, ⟨o19, k19, u19⟩, o20, k20, u20⟩ := hfs
   have h0 := hg 0 f0 rfl
   rw [o0, k0, List.getElem?_eq_getElem (by omega)] at h0
   obtain ⟨a0, e0, _⟩ := DataW.trod_int u0 h0
   have h1 := hg 1 f1 rfl
   rw [o1, k1, List.getElem?_eq_getElem (by omega)] at h1
   obtain ⟨a1, e1, _⟩ := DataW.trod_int u1 h1
   have h2 := hg 2 f2 rfl
   rw [o2, k2, List.getElem?_eq_getElem (by omega)] at h2
   obtain ⟨a2, e2, _⟩ := DataW.trod_int u2 h2
   have h3 := hg 3 f3 rfl
   rw [o3, k3, List.getElem?_eq_getElem (by omega)] at h3
   obtain ⟨a3, e3, _⟩ := DataW.trod_int u3 h3
   have h4 := hg 4 f4 rfl
   rw [o4, k4, List.getElem?_eq_getElem (by omega)] at h4
   obtain ⟨a4, e4, _⟩ := DataW.trod_int u4 h4
   have h5 := hg 5 f5 rfl
   rw [o5, k5, List.getElem?_eq_getElem (by omega)] at h5
   obtain ⟨a5, e5, _⟩ := DataW.trod_int u5 h5
   have h6 := hg 6 f6 rfl
   rw [o6, k6, List.getElem?_eq_getElem (by omega)] at h6
   obtain ⟨a6, e6, _⟩ := DataW.trod_int u6 h6
   have h7 := hg 7 f7 rfl
   rw [o7, k7, List.getElem?_eq_getElem (by omega)] at h7
   obtain ⟨a7, e7, _⟩ := DataW.trod_int u7 h7
   have h8 := hg 8 f8 rfl
   rw [o8, k8, List.getElem?_eq_getElem (by omega)] at h8
   obtain ⟨a8, e8, _⟩ := DataW.trod_int u8 h8
   have h9 := hg 9 f9 rfl
   rw [o9, k9, List.getElem?_eq_getElem (by omega)] at h9
   obtain ⟨a9, e9, _⟩ := DataW.trod_int u9 h9
   have h10 := hg 10 f10 rfl
   rw [o10, k10, List.getElem?_eq_getElem (by omega)] at h10
   obtain ⟨a10, e10, _⟩ := DataW.trod_int u10 h10
   have h11 := hg 11 f11 rfl
   rw [o11, k11, List.getElem?_eq_getElem (by omega)] at h11
   obtain ⟨a11, e11, _⟩ := DataW.trod_int u11 h11
   have h12 := hg 12 f12 rfl
   rw [o12, k12, List.getElem?_eq_getElem (by omega)] at h12
   obtain ⟨a12, e12, _⟩ := DataW.trod_int u12 h12
   have h13 := hg 13 f13 rfl
   rw [o13, k13, List.getElem?_eq_getElem (by omega)] at h13
   obtain ⟨a13, e13, _⟩ := DataW.trod_int u13 h13
   have h14 := hg 14 f14 rfl
   rw [o14, k14, List.getElem?_eq_getElem (by omega)] at h14
   obtain ⟨a14, e14, _⟩ := DataW.trod_bool u14 h14
   have h15 := hg 15 f15 rfl
   rw [o15, k15, List.getElem?_eq_getElem (by omega)] at h15
   obtain ⟨a15, e15, _⟩ := DataW.trod_int u15 h15
   have h16 := hg 16 f16 rfl
   rw [o16, k16, List.getElem?_eq_getElem (by omega)] at h16
   obtain ⟨a16, e16, _, _⟩ := DataW.trod_string u16 h16
   have h17 := hg 17 f17 rfl
   rw [o17, k17, List.getElem?_eq_getElem (by omega)] at h17
   obtain ⟨a17, e17, _, _⟩ := DataW.trod_string u17 h17
   have h18 := hg 18 f18 rfl
   rw [o18, k18, List.getElem?_eq_getElem (by omega)] at h18
   obtain ⟨a18, e18, _⟩ := DataW.trod_int u18 h18
   have h19 := hg 19 f19 rfl
   rw [o19, k19, List.getElem?_eq_getElem (by omega)] at h19
   obtain ⟨a19, e19, _⟩ := DataW.trod_int u19 h19
   have h20 := hg 20 f20 rfl
   rw [o20, k20, List.getElem?_eq_getElem (by omega)] at h20
   obtain ⟨a20, e20, _⟩ := DataW.trod_bool u20 h20
   simp only [Value.cells, List.drop_succ_cons, List.drop_zero, List.take_succ_cons, List.take_zero, List.cons.injEq, and_true] at e0 e1 e2 e3 e4 e5 e6 e7 e8 e9 e10 e11 e12 e13 e14 e15 e16 e17 e18 e19 e20
   subst e0 e1 e2 e3 e4 e5 e6 e7 e8 e9 e10 e11 e12 e13 e14 e15 e16 e17 e18 e19 e20
   exact ⟨⟨a0, a1, a2, a3, a4, a5, a6, a7, a8, a9, a10, a11, a12, a13, a14, a15, a16.data.toList, a17.data.toList, a18, a19, a20⟩, rfl⟩
end Go.Proofs.YtifmbcjbccedfaaGreatDoor
namespace Go.Proofs.YtifmbcjbccedfaaGreatDoor
open Go.ChangeShapes Go.WideShapes Go.Deep Go.RowKit Dsd
section
variable {H : Type} {enc : TypeId × Value → H} {P : Program} {w : World} {base : Nat} {spare : Nat → Bool} {held : Bool}
theorem open_slice_fields {t e : TypeId} {fs : Array Field} {fuel : Nat} {cs : List Value} {x : DataW H × List MemPlace} (ht : P.underlying t = some (.slice e)) (he : P.underlying e = some (.struct fs))
   (hone : oneCellFields P fs = true) (hC : P.cellsOf e = fs.size) (h : DataW.trod enc P w base spare held fuel t cs = some x) :
   (cs = [.slice none 0 0] ∧ x = (.nil, [])) ∨
   ∃ (a : Addr) (len cap m : Nat) (D : Nat → DataW H) (Pl : Nat → List MemPlace), cs = [.slice (some a) len cap] ∧ base ≤ a.block ∧ len ≤ cap ∧ cap ≤ maxLen ∧ m = (if spare a.block then cap else len) ∧
     x = (.slice ((List.range len).map D) ((List.range (m - len)).map fun j => D (len + j)), MemPlace.row a (m * fs.size) ++ (List.range m).flatMap Pl) ∧
     ∀ i, i < m → ∃ (ys : List (DataW H × List MemPlace)) (n : Nat), D i = .agg (ys.map (·.1)) ∧ Pl i = ys.flatMap (·.2) ∧ ys.length = fs.size ∧
       ∀ (j : Nat) (f : Field), fs[j]? = some f → ∃ (v : Value) (y : DataW H × List MemPlace), w.cell? (a.add (i * fs.size + j)) = some v ∧ ys[j]? = some y ∧ DataW.trod enc P w base spare held n f.type [v] = some y := by
 rcases open_slice ht h with h0 | ⟨a, len, cap, m, n, D, Pl, hcs, hb, hl, hm, hmm, hx, hi⟩
 · exact .inl h0
 · refine .inr ⟨a, len, cap, m, D, Pl, hcs, hb, hl, hm, hmm, by rw [hC] at hx; exact hx, fun i him => ?_⟩
   obtain ⟨cs', hc, ht'⟩ := hi i him
   rw [hC] at hc
   obtain ⟨ys, n', hn', hy, hlen, hyl, hf⟩ := DataW.trod_struct he ht'
   obtain ⟨_, hcl, hat⟩ := World.cells?_some hc
   simp only [Prod.mk.injEq] at hy
   refine ⟨ys, n', hy.1, hy.2, hyl, fun j f hj => ?_⟩
   obtain ⟨ho, hk⟩ := hone_of hone j f hj
   have hjl : j < fs.size := (Array.getElem?_eq_some_iff.1 hj).1
   have hcell := hat j hjl
   have hv : cs'[j]? = some (cs'[j]'(by omega)) := List.getElem?_eq_getElem (by omega)
   have h1 := hf j f hj
   rw [ho, hk] at h1
   have hone' : (cs'.drop j).take 1 = [cs'[j]'(by omega)] := by
     rw [List.drop_eq_getElem_cons (by omega)]
     rfl
   rw [hone'] at h1
   have hys : ys[j]? = some (ys[j]'(by omega)) := List.getElem?_eq_getElem (by omega)
   refine ⟨_, _, ?_, hys, h1.trans hys⟩
   rw [← Go.Deep.add_add, hcell, hv]
end
theorem cell_spot {w : World} {a : Addr} {v : Value} (h : w.cell? a = some v) : a.spot = none ∧ a.block < w.heap.size := by
 unfold World.cell? at h
 split at h
 · rename_i hx
   split at h
   · cases h
   · rename_i h2
     exact ⟨by simpa using h2, (Array.getElem?_eq_some_iff.1 hx).1⟩
 · cases h
end Go.Proofs.YtifmbcjbccedfaaGreatDoor
namespace Dsd
theorem exists_list {α : Type} {P : Nat → α → Prop} : ∀ (n : Nat), (∀ i, i < n → ∃ x, P i x) → ∃ l : List α, l.length = n ∧ ∀ i (h : i < l.length), P i l[i]
 | 0, _ => ⟨[], rfl, fun i h => by simp at h⟩
 | n + 1, h => by
   obtain ⟨l, hl, hp⟩ := exists_list n fun i hi => h i (by omega)
   obtain ⟨x, hx⟩ := h n (by omega)
   refine ⟨l ++ [x], by simp [hl], fun i hi => ?_⟩
   by_cases e : i < l.length
   · rw [List.getElem_append_left e]; exact hp i e
   · have e2 : i = l.length := by simp at hi; omega
     subst e2
     simp only [List.getElem_append_right (Nat.le_refl _), Nat.sub_self, List.getElem_cons_zero]
     rw [hl]; exact hx
end Dsd
namespace Go.Proofs.YtifmbcjbccedfaaGreatDoor
open Go.ChangeShapes Go.WideShapes Go.Deep Go.RowKit Dsd
theorem arTypes : (Tryz.prog.fieldsOf 29).toList.map (fun f => (f.offset, Tryz.prog.cellsOf f.type, f.type)) = [(0, 1, 3), (1, 3, 26), (4, 1, 27)] := by kernel_rfl
theorem ndTypes : (Tryz.prog.fieldsOf 26).toList.map (fun f => (f.offset, Tryz.prog.cellsOf f.type, f.type)) = [(0, 1, 3), (1, 1, 3), (2, 1, 24)] := by kernel_rfl
theorem entTypes : (Tryz.prog.fieldsOf 63).toList.map (fun f => f.type) = [9, 3] := by kernel_rfl
theorem entDescA : Tryz.prog.underlying 63 = some (.struct (Tryz.prog.fieldsOf 63)) := by kernel_rfl
section
variable {H : Type} {enc : TypeId × Value → H} {w : World} {base : Nat} {spare : Nat → Bool} {held : Bool}
theorem open_ents {fuel : Nat} {v : Value} {x : DataW H × List MemPlace} (hf : DataW.trod enc Tryz.prog w base spare held fuel 24 [v] = some x) :
   ∃ (L : List Ent) (q : Option Addr) (c : Nat), v = .slice q L.length c ∧ Nents w q L ∧ L.length ≤ c ∧ c ≤ maxLen ∧ ∀ i, (entAt L i).1.length ≤ maxLen := by
 have hfs := entTypes
 have hsz : (Tryz.prog.fieldsOf 63).size = 2 := by kernel_rfl
 rcases open_slice_fields Tryz.underlying24 entDescA (by kernel_rfl) (by kernel_rfl) hf with ⟨hcs, _⟩ | ⟨x, len, cap, m, D, Pl, hcs, _, hl, hm, hmm, _, hi⟩
 · simp only [List.cons.injEq, and_true] at hcs
   exact ⟨[], none, 0, hcs, .inl rfl, Nat.le_refl _, by simp, by simp [entAt]⟩
 · simp only [List.cons.injEq, and_true] at hcs
   have hlm : len ≤ m := by rw [hmm]; split <;> omega
   have hcell : ∀ i, i < len → ∃ e : Ent, (w.cell? (x.add (i * 2)) = some (.string ⟨e.1.toArray⟩) ∧ e.1.length ≤ maxLen) ∧ w.cell? (x.add (i * 2 + 1)) = some (.int .i64 e.2) := by
     intro i hil
     obtain ⟨ys, n, _, _, _, hj⟩ := hi i (by omega)
     rw [hsz] at hj
     generalize Tryz.prog.fieldsOf 63 = fs at *
     have g0 := congrArg (fun l => l[0]?) hfs
     have g1 := congrArg (fun l => l[1]?) hfs
     simp at g0 g1
     obtain ⟨f0, e0, t0⟩ := g0
     obtain ⟨f1, e1, t1⟩ := g1
     obtain ⟨v0, y0, c0, _, h0⟩ := hj 0 f0 e0
     obtain ⟨v1, y1, c1, _, h1⟩ := hj 1 f1 e1
     rw [t0] at h0
     rw [t1] at h1
     obtain ⟨s, hs, _, hw⟩ := DataW.trod_string Tryz.underlying9 h0
     obtain ⟨b, hb, _⟩ := DataW.trod_int Tryz.underlying3 h1
     simp at hb hs
     subst hb hs
     exact ⟨(s.data.toList, b), ⟨c0, hw⟩, c1⟩
   obtain ⟨L, hL, hp⟩ := exists_list len hcell
   refine ⟨L, some x, cap, by rw [hL]; exact hcs, ?_, by omega, hm, fun i => ?_⟩
   · by_cases h0 : len = 0
     · have : L = [] := List.eq_nil_of_length_eq_zero (by omega)
       subst this
       exact .inl rfl
     · obtain ⟨⟨c0, _⟩, _⟩ := hp 0 (by omega)
       have hx := cell_spot c0
       simp only [Nat.zero_mul, Addr.add, if_true] at hx
       obtain ⟨b, off, sp⟩ := x
       simp only at hx
       obtain ⟨rfl, hb⟩ := hx
       refine .inr ⟨b, off, rfl, hb, fun j hj => ?_⟩
       rw [entCells_len] at hj
       obtain ⟨k0, k1⟩ := entCells_at L (j / 2) (by omega)
       obtain ⟨⟨c0, _⟩, c1⟩ := hp (j / 2) (by omega)
       have he : entAt L (j / 2) = L[j / 2] := by simp [entAt, List.getD, show j / 2 < L.length by omega]
       rw [addr_add] at c0 c1
       rw [he] at k0 k1
       rcases Nat.mod_two_eq_zero_or_one j with hm2 | hm2
       · have ej : j = j / 2 * 2 := by omega
         rw [ej, c0, List.getD_eq_getElem?_getD, k0]; rfl
       · have ej : j = j / 2 * 2 + 1 := by omega
         rw [ej, c1, List.getD_eq_getElem?_getD, k1]; rfl
   · by_cases hi' : i < L.length
     · have := (hp i hi').1.2
       have he : entAt L i = L[i] := by simp [entAt, List.getD, hi']
       rw [he]; exact this
     · simp [entAt, List.getD, List.getElem?_eq_none (Nat.le_of_not_lt hi')]
theorem open_row {fuel : Nat} {v : Value} {x : DataW H × List MemPlace} (hf : DataW.trod enc Tryz.prog w base spare held fuel 30 [v] = some x) :
   ∃ L : Recs, RowX w v L ∧ L.length ≤ maxLen ∧ ∀ s ∈ L, s.length ≤ maxLen := by
 rcases open_strings Tryz.underlying30 Tryz.underlying9 (by kernel_rfl) hf with ⟨hcs, _⟩ | ⟨y, l, c, ss, hcs, _⟩
 · simp only [List.cons.injEq, and_true] at hcs
   exact ⟨[], ⟨none, 0, hcs, .inl rfl, Nat.le_refl _, by simp, fun _ => ⟨rfl, rfl⟩⟩, by simp, by simp⟩
 · simp only [List.cons.injEq, and_true] at hcs
   subst hcs
   obtain ⟨L, h1, h2, h3, h4, h5⟩ := open_strs (t := 30) (e := 9) (d := x.1) (ps := x.2) Tryz.underlying30 Tryz.underlying9 (by kernel_rfl) ⟨fuel, hf⟩
   exact ⟨L, ⟨some y, c, by rw [h2], h1, by omega, h4, fun h => by cases h⟩, by omega, h5⟩
theorem open_rows {fuel : Nat} {v : Value} {x : DataW H × List MemPlace} (hf : DataW.trod enc Tryz.prog w base spare held fuel 27 [v] = some x) :
   ∃ (V : List Recs) (p : Option Addr) (m : Nat), v = .slice p V.length m ∧ IvsX w p V ∧ V.length ≤ m ∧ m ≤ maxLen ∧ ∀ i, (V.getD i []).length ≤ maxLen ∧ ∀ s ∈ V.getD i [], s.length ≤ maxLen := by
 rcases open_slice Tryz.underlying27 hf with ⟨hcs, _⟩ | ⟨x, len, cap, m, n, D, Pl, hcs, _, hl, hm, hmm, _, hi⟩
 · simp only [List.cons.injEq, and_true] at hcs
   exact ⟨[], none, 0, hcs, ⟨[], .inl rfl, rfl, fun i h => by simp at h⟩, Nat.le_refl _, by simp, by simp⟩
 · simp only [List.cons.injEq, and_true] at hcs
   have hlm : len ≤ m := by rw [hmm]; split <;> omega
   have hC : Tryz.prog.cellsOf 30 = 1 := by kernel_rfl
   have hcell : ∀ i, i < len → ∃ y : Value × Recs, w.cell? (x.add i) = some y.1 ∧ RowX w y.1 y.2 ∧ y.2.length ≤ maxLen ∧ ∀ s ∈ y.2, s.length ≤ maxLen := by
     intro i hil
     obtain ⟨cs', hc, ht'⟩ := hi i (by omega)
     rw [hC] at hc
     obtain ⟨_, hcl, hat⟩ := World.cells?_some hc
     match cs', hcl with
     | [u], _ =>
       have h0 := hat 0 (by omega)
       rw [Go.Deep.add_add, Nat.mul_one, Nat.add_zero] at h0
       obtain ⟨L, h1, h2, h3⟩ := open_row ht'
       exact ⟨(u, L), by simpa using h0, h1, h2, h3⟩
   obtain ⟨Z, hZ, hp⟩ := exists_list len hcell
   have hml : (Z.map (·.2)).length = len := by rw [List.length_map, hZ]
   refine ⟨Z.map (·.2), some x, cap, by rw [hml]; exact hcs, ⟨Z.map (·.1), ?_, by simp, fun i hi' => ?_⟩, by omega, hm, fun i => ?_⟩
   · by_cases h0 : len = 0
     · have : Z = [] := List.eq_nil_of_length_eq_zero (by omega)
       subst this
       exact .inl rfl
     · have c0 := (hp 0 (by omega)).1
       have hx := cell_spot c0
       simp only [Addr.add, if_true] at hx
       obtain ⟨b, off, sp⟩ := x
       simp only at hx
       obtain ⟨rfl, hb⟩ := hx
       refine .inr ⟨b, off, rfl, hb, fun j hj => ?_⟩
       rw [List.length_map] at hj
       have := (hp j hj).1
       rw [addr_add] at this
       rw [this]
       simp [List.getD, hj]
   · rw [List.length_map] at hi'
     have := (hp i hi').2.1
     simpa [List.getD, hi'] using this
   · by_cases hi' : i < Z.length
     · have := (hp i hi').2.2
       simpa [List.getD, hi'] using this
     · simp [List.getD, List.getElem?_eq_none (Nat.le_of_not_lt hi')]
set_option maxRecDepth 100000 in
theorem open_area {r : Reach} {b0 : Nat} {v : Value} {d : DataW H} {ps : List MemPlace}
   (hv : Value.okWide Tryz.prog w r b0 29 v) (h : DataW.Trod enc Tryz.prog w base spare held 29 v d ps) :
   ∃ (a : Ar) (q : Option Addr) (c : Nat) (p : Option Addr) (m : Nat), v = .agg (arC a q c p m) ∧ ArW w a q c p m ∧ c ≤ maxLen ∧ (∀ i, (entAt a.nd.ents i).1.length ≤ maxLen) ∧ ∀ i, (a.ivs.getD i []).length ≤ maxLen ∧ ∀ s ∈ a.ivs.getD i [], s.length ≤ maxLen := by
 have hfs := arTypes
 have hns := ndTypes
 obtain ⟨cs, rfl, hsz⟩ := okWide_struct arDesc hv
 obtain ⟨fuel, hf⟩ := h
 obtain ⟨xs, n, _, _, _, hlen, hg⟩ := DataW.trod_struct arDesc hf
 have hC : Tryz.prog.cellsOf 29 = 5 := by kernel_rfl
 have hF : (Tryz.prog.fieldsOf 29).size = 3 := by kernel_rfl
 rw [hC] at hsz
 rw [hF] at hlen
 generalize Tryz.prog.fieldsOf 29 = fs at *
 obtain ⟨fl⟩ := fs
 obtain ⟨l⟩ := cs
 simp only [List.size_toArray] at hsz hF
 match l, hsz, fl, hF with
 | [c0, c1, c2, c3, c4], _, [f0, f1, f2], _ =>
   simp only [List.map_cons, List.map_nil, List.cons.injEq, Prod.mk.injEq, and_true] at hfs
   obtain ⟨⟨o0, k0, u0⟩, ⟨o1, k1, u1⟩, o2, k2, u2⟩ := hfs
   have h0 := hg 0 f0 rfl
   rw [o0, k0, u0, List.getElem?_eq_getElem (by omega)] at h0
   obtain ⟨a0, e0, _⟩ := DataW.trod_int Tryz.underlying3 h0
   have h1 := hg 1 f1 rfl
   rw [o1, k1, u1, List.getElem?_eq_getElem (by omega)] at h1
   have h2 := hg 2 f2 rfl
   rw [o2, k2, u2, List.getElem?_eq_getElem (by omega)] at h2
   simp only [Value.cells, List.drop_succ_cons, List.drop_zero, List.take_succ_cons, List.take_zero, List.cons.injEq, and_true] at e0 h1 h2
   subst e0
   obtain ⟨ys, n2, _, _, _, hlen2, hg2⟩ := DataW.trod_struct ndDesc h1
   have hF2 : (Tryz.prog.fieldsOf 26).size = 3 := by kernel_rfl
   rw [hF2] at hlen2
   generalize Tryz.prog.fieldsOf 26 = fs2 at *
   obtain ⟨fl2⟩ := fs2
   simp only [List.size_toArray] at hF2
   match fl2, hF2 with
   | [g0, g1, g2], _ =>
     simp only [List.map_cons, List.map_nil, List.cons.injEq, Prod.mk.injEq, and_true] at hns
     obtain ⟨⟨p0, m0, w0⟩, ⟨p1, m1, w1⟩, p2, m2, w2⟩ := hns
     have i0 := hg2 0 g0 rfl
     rw [p0, m0, w0, List.getElem?_eq_getElem (by omega)] at i0
     obtain ⟨b0, e1, _⟩ := DataW.trod_int Tryz.underlying3 i0
     have i1 := hg2 1 g1 rfl
     rw [p1, m1, w1, List.getElem?_eq_getElem (by omega)] at i1
     obtain ⟨b1, e2, _⟩ := DataW.trod_int Tryz.underlying3 i1
     have i2 := hg2 2 g2 rfl
     rw [p2, m2, w2, List.getElem?_eq_getElem (by omega)] at i2
     simp only [List.drop_succ_cons, List.drop_zero, List.take_succ_cons, List.take_zero, List.cons.injEq, and_true] at e1 e2 i2
     subst e1 e2
     obtain ⟨L, q, c, rfl, hn, hc1, hc2, hsm⟩ := open_ents i2
     obtain ⟨V, p, m, rfl, hvs, hm1, hm2, hsV⟩ := open_rows h2
     exact ⟨⟨a0, ⟨b0, b1, L⟩, V⟩, q, c, p, m, rfl, ⟨hn, hvs, hc1, hm1, hm2⟩, hc2, hsm, hsV⟩
end
end Go.Proofs.YtifmbcjbccedfaaGreatDoor
