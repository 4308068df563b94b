/- Words for struct variables in memory: a block's cells, a whole struct loaded and stored, a world given a name, results that are structs. Over any program. -/
import Derived.Test.YtmnpappbacndlaaGreatDoorBase
import Derived.Laws.Rows
import Derived.BigFrame
set_option linter.unusedSimpArgs false
set_option linter.unusedVariables false
namespace Dsd
open Go Go.RowKit

theorem Blk.val {w : World} {b : Nat} {cs : Array Value} {t : TypeId} (h : Blk w b (.cells cs t)) (i : Nat) (v : Value) (hv : cs[i]? = some v) : w.cell? ⟨b, i, none⟩ = some v := by
  rw [cell_of_row w b i cs t (0, 0) h, hv]
theorem Blk.free {w : World} {b : Nat} {cs : Array Value} {t : TypeId} (h : Blk w b (.cells cs t)) (i : Nat) : w.frozen? ⟨b, i, none⟩ = false := frozen_of_row w b i cs t h
theorem Blk.new1 (w : World) (o : Obj) (b : Nat) (hb : b = w.heap.size) : Blk (w.alloc o) b o := by subst hb; exact Blk.new w o
/-- The world takes a name; what is said of it stands. -/
theorem wp_name {P : Program} {c : Code} {Q : Exit → Act → World → Prop} {a : Act} {W : World} (S : World → Prop) (h : S W) (k : ∀ w, S w → Code.wp P c Q a w) : Code.wp P c Q a W := k W h
theorem wpList_name {P : Program} {ops : Array Oper} {l : List Oper} {Q : Exit → Act → World → Prop} {a : Act} {W : World} (S : World → Prop) (h : S W) (k : ∀ w, S w → wpList P ops Q l a w) : wpList P ops Q l a W := k W h
theorem post_name {P : Program} {fn : Func} {R : Ending → World → Prop} {e : Exit} {a : Act} {W : World} (S : World → Prop) (h : S W) (k : ∀ w, S w → bodyPost P fn R e a w) : bodyPost P fn R e a W := k W h
/-- Block g alone has turned. -/
structure Chg (g : Nat) (w w' : World) : Prop where
  os : w'.os = w.os
  tape : w'.tape = w.tape
  output : w'.output = w.output
  size : w'.heap.size = w.heap.size
  block : ∀ k, k ≠ g → w'.heap[k]? = w.heap[k]?
theorem Chg.blk {g : Nat} {w w' : World} (c : Chg g w w') {b : Nat} {o : Obj} (h : Blk w b o) (hne : b ≠ g) : Blk w' b o := (c.block b hne).trans h
theorem Chg.ext {g : Nat} {w0 w w' : World} (c : Chg g w w') (h : Ext w0 w) (hg : w0.heap.size ≤ g) : Ext w0 w' :=
  Ext.trans' h ⟨c.os, c.tape, c.output, by rw [c.size]; exact Nat.le_refl _, fun k hk => c.block k (by omega)⟩
theorem Chg.setRow {w : World} {g : Nat} {cs : Array Value} : Chg g w (w.setRow g cs) :=
  ⟨rfl, rfl, rfl, by simp, fun k hk => setRow_other w g k cs hk⟩
theorem Chg.setCell {w : World} {g i : Nat} {v : Value} : Chg g w (w.setCell ⟨g, i, none⟩ v) :=
  ⟨rfl, rfl, rfl, by simp, fun k hk => heap_setCell_other w ⟨g, i, none⟩ k v hk⟩
theorem Chg.trans {g : Nat} {a b c : World} (h : Chg g a b) (k : Chg g b c) : Chg g a c := ⟨k.os.trans h.os, k.tape.trans h.tape, k.output.trans h.output, k.size.trans h.size, fun i hi => (k.block i hi).trans (h.block i hi)⟩
theorem Blk.setRow {w : World} {g : Nat} {old cs : Array Value} {t : TypeId} (h : Blk w g (.cells old t)) : Blk (w.setRow g cs) g (.cells cs t) := setRow_heap w g old cs t _ h
theorem Blk.setCell {w : World} {g i : Nat} {cs : Array Value} {v : Value} {t : TypeId} (h : Blk w g (.cells cs t)) : Blk (w.setCell ⟨g, i, none⟩ v) g (.cells (cs.setIfInBounds i v) t) := heap_setCell_same w g i cs t v h
section
variable {P : Program} {ops : Array Oper} {rest : List Oper} {o : Oper} {a : Act} {w : World} {Q : Exit → Act → World → Prop}
/-- A whole struct is loaded out of a block of its own. -/
theorem wpList_row (hw : Region.wanted o (yielded ops a.tmps) = true) (ty : TypeId) (x : Operand) (ho : o.op = .load ty x)
    (g : Nat) (hx : a.eval x = .pointer (some ⟨g, 0, none⟩)) (t : TypeId) (cs : Array Value) (d : TypeDesc) (hb : Blk w g (.cells cs t)) (hu : P.underlying ty = some d) (hd : (match d with | .struct _ | .array _ _ => true | _ => false) = true)
    (hi : (P.info? ty).map (·.size) = some cs.size) (h : wpList P ops Q rest (a.put o.dst (.agg cs)) w) : wpList P ops Q (o :: rest) a w :=
  BigFrame.wpList_want hw fun _ hK => wp_load_row ty x ho g hx t cs (0, 0) d hb hu hd hi (hK _ _ h)
/-- A part of a struct in memory is loaded: the cells from 'off' on. -/
theorem wpList_part (hw : Region.wanted o (yielded ops a.tmps) = true) (ty : TypeId) (x : Operand) (ho : o.op = .load ty x)
    (g off : Nat) (hx : a.eval x = .pointer (some ⟨g, off, none⟩)) (t : TypeId) (all cs : Array Value) (d : TypeDesc) (hb : Blk w g (.cells all t)) (hc : ∀ j (hj : j < cs.size), all[off + j]? = some cs[j]) (hu : P.underlying ty = some d)
    (hd : (match d with | .struct _ | .array _ _ => true | _ => false) = true) (hi : (P.info? ty).map (·.size) = some cs.size) (h : wpList P ops Q rest (a.put o.dst (.agg cs)) w) : wpList P ops Q (o :: rest) a w := by
  refine BigFrame.wpList_want hw fun _ hK => ?_
  have hl : (loadCells ⟨g, off, none⟩ cs.toList.length).run P w = .ok cs.toList.toArray w :=
    run_loadCells_list (P := P) w ⟨g, off, none⟩ cs.toList (fun j v hv => by
      rw [addr_add, cell_of_row w g (off + j) all t (0, 0) hb]
      have hj : j < cs.size := by have := (List.getElem?_eq_some_iff.1 hv).1; simpa using this
      rw [hc j hj]
      simp [hj] at hv
      rw [← hv])
  have hlv : (loadVar ty ⟨g, off, none⟩).run P w = .ok (.agg cs) w := by
    cases hq : P.info? ty with
    | none => simp [hq] at hi
    | some i =>
      have hs : i.size = cs.size := by simpa [hq] using hi
      have hagg : (isAgg ty).run P w = .ok true w := by
        unfold isAgg
        rw [Sem.run_bind, run_underlying hu w]
        cases d <;> simp_all
      simp only [Array.length_toList, Array.toArray_toList] at hl
      simp [loadVar, Sem.run_bind, hagg, Go.sizeOf, typeInfo, hq, hs, hl]
  unfold Oper.wp execOp
  simp only [ho, hx, Instr.loadAt, Instr.sureAddr, Sem.run_bind, Sem.run_pure, Result.andThen_ok, hlv]
  exact hK _ _ h
/-- A whole struct is stored into a block of its own. -/
theorem wpList_put (hw : Region.wanted o (yielded ops a.tmps) = true) (ty : TypeId) (x y : Operand) (ho : o.op = .store ty x y)
    (g : Nat) (cells : Array Value) (hx : a.eval x = .pointer (some ⟨g, 0, none⟩)) (hy : a.eval y = .agg cells)
    (t : TypeId) (old : Array Value) (hb : Blk w g (.cells old t)) (hi : (P.info? ty).map (·.size) = some cells.size) (hold : old.size = cells.size) (h1 : cells.all (·.oneCell') = true)
    (h : ∀ w', Blk w' g (.cells cells t) → Chg g w w' → wpList P ops Q rest (a.put o.dst undef) w') : wpList P ops Q (o :: rest) a w :=
  BigFrame.wpList_want hw fun _ hK => wp_store_row ty x y ho g cells hx hy t old hb hi hold h1 (hK _ _ (h _ (Blk.setRow hb) Chg.setRow))
/-- A struct is built. -/
theorem wpList_bld (hw : Region.wanted o (yielded ops a.tmps) = true) (t : TypeId) (parts : Array (Nat × Operand)) (ho : o.op = .build t parts) (vs : List (Nat × Value)) (hvs : (parts.map fun (i, x) => (i, a.eval x)).toList = vs)
    (cs : Array Value) (hb : P.built t vs = some cs) (h : wpList P ops Q rest (a.put o.dst (.agg cs)) w) : wpList P ops Q (o :: rest) a w :=
  BigFrame.wpList_want hw fun _ hK => wp_build t parts ho (by rw [hvs, hb]; rfl) (by rw [hvs, hb]; exact hK _ _ h)
end
/-! Results that begin with a struct in memory. -/
theorem results_row1 {P : Program} {fn : Func} {p t1 : Tmp} {ty : TypeId} (h : fn.results = #[.cell p ty, .tmp t1]) (tmps : Array Value) (w : World) (g : Nat) (t : TypeId) (cs : Array Value) (d : TypeDesc)
    (hp : tmps.getD p undef = .pointer (some ⟨g, 0, none⟩)) (hg : Blk w g (.cells cs t)) (hu : P.underlying ty = some d) (hd : (match d with | .struct _ | .array _ _ => true | _ => false) = true) (hi : (P.info? ty).map (·.size) = some cs.size) :
    (results fn tmps).run P w = .ok (.tuple #[.agg cs, tmps.getD t1 undef]) w := by
  have hp' : tmps[p]?.getD undef = .pointer (some ⟨g, 0, none⟩) := by simpa using hp
  have hlr := run_loadVar_row w g t ty cs (0, 0) d hg hu hd hi
  simp [results, h, hp', asAddr, hlr, Sem.run_bind]
theorem results_row2 {P : Program} {fn : Func} {p t1 t2 : Tmp} {ty : TypeId} (h : fn.results = #[.cell p ty, .tmp t1, .tmp t2]) (tmps : Array Value) (w : World) (g : Nat) (t : TypeId) (cs : Array Value) (d : TypeDesc)
    (hp : tmps.getD p undef = .pointer (some ⟨g, 0, none⟩)) (hg : Blk w g (.cells cs t)) (hu : P.underlying ty = some d) (hd : (match d with | .struct _ | .array _ _ => true | _ => false) = true) (hi : (P.info? ty).map (·.size) = some cs.size) :
    (results fn tmps).run P w = .ok (.tuple #[.agg cs, tmps.getD t1 undef, tmps.getD t2 undef]) w := by
  have hp' : tmps[p]?.getD undef = .pointer (some ⟨g, 0, none⟩) := by simpa using hp
  have hlr := run_loadVar_row w g t ty cs (0, 0) d hg hu hd hi
  simp [results, h, hp', asAddr, hlr, Sem.run_bind]
theorem results_row3 {P : Program} {fn : Func} {p t1 t2 t3 : Tmp} {ty : TypeId} (h : fn.results = #[.cell p ty, .tmp t1, .tmp t2, .tmp t3]) (tmps : Array Value) (w : World) (g : Nat) (t : TypeId) (cs : Array Value) (d : TypeDesc)
    (hp : tmps.getD p undef = .pointer (some ⟨g, 0, none⟩)) (hg : Blk w g (.cells cs t)) (hu : P.underlying ty = some d) (hd : (match d with | .struct _ | .array _ _ => true | _ => false) = true) (hi : (P.info? ty).map (·.size) = some cs.size) :
    (results fn tmps).run P w = .ok (.tuple #[.agg cs, tmps.getD t1 undef, tmps.getD t2 undef, tmps.getD t3 undef]) w := by
  have hp' : tmps[p]?.getD undef = .pointer (some ⟨g, 0, none⟩) := by simpa using hp
  have hlr := run_loadVar_row w g t ty cs (0, 0) d hg hu hd hi
  simp [results, h, hp', asAddr, hlr, Sem.run_bind]
end Dsd
