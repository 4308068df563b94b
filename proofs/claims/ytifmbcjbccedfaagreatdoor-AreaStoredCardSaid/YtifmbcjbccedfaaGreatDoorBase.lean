/- A part of the proof. -/
import Derived.Test.YtifmbcjbccedfaaGreatDoorRows
import Derived.WalkKit
import Derived.WalkSpells
import Derived.WalkLawsBesides
import Derived.Deep.QuietTactic
import Derived.BigQuiet
import Derived.BigRegion
import Derived.LoopTactic
import Derived.Lib.Hide
import Derived.KernelRfl
import Derived.Laws.Rows
import Derived.BigFrame
import Derived.Lib.SliceRun
set_option linter.unusedSimpArgs false
set_option linter.unusedVariables false
namespace Dsd
open Go Go.RowKit
def Ext (w w' : World) : Prop := Below w.heap.size w w'
theorem Ext.refl (w : World) : Ext w w := Below.refl _ _
theorem Ext.size {w w' : World} (h : Ext w w') : w.heap.size ≤ w'.heap.size := Below.size h
theorem Ext.trans {a b c : World} (h : Ext a b) (k : Ext b c) : Ext a c := Below.trans h (Below.mono k h.size)
theorem Ext.drewN (w : World) (n : Nat) : Ext w (w.drewN n) := ⟨rfl, rfl, rfl, Nat.le_refl _, fun _ _ => rfl⟩
theorem Ext.drew (w : World) : Ext w w.drew := ⟨rfl, rfl, rfl, Nat.le_refl _, fun _ _ => rfl⟩
theorem Ext.of_drawn {w w' : World} (h : ∃ n, w' = w.drewN n) : Ext w w' := by obtain ⟨n, rfl⟩ := h; exact Ext.drewN w n
theorem Ext.alloc (w : World) (o : Obj) : Ext w (w.alloc o) := Below.alloc (Below.refl _ _) (Nat.le_refl _) o
theorem Ext.cell {w w' : World} (h : Ext w w') (b o : Nat) (hb : b < w.heap.size) : w'.cell? ⟨b, o, none⟩ = w.cell? ⟨b, o, none⟩ := Below.cell (p := ⟨b, o, none⟩) h hb
theorem Ext.frozen {w w' : World} (h : Ext w w') (b o : Nat) (hb : b < w.heap.size) : w'.frozen? ⟨b, o, none⟩ = w.frozen? ⟨b, o, none⟩ := Below.frozen (p := ⟨b, o, none⟩) h hb
theorem Ext.block {w w' : World} (h : Ext w w') (b : Nat) (hb : b < w.heap.size) : w'.heap[b]? = w.heap[b]? := Below.block h b hb
def byt (l : List UInt8) (i : Nat) : Nat := (l.getD i 0).toNat
theorem byt_lt (l : List UInt8) (i : Nat) : byt l i < 256 := (l.getD i 0).toNat_lt
@[go_sem] theorem byt_fold (l : List UInt8) (i : Nat) (h : i < (ByteArray.mk l.toArray).size) : ((ByteArray.mk l.toArray)[i]'h).toNat = byt l i := by
 have h2 : i < l.length := by simpa [ByteArray.size] using h
 have e : ((ByteArray.mk l.toArray)[i]'h) = l.getD i 0 := by simp [List.getD, h2]; rfl
 rw [e]; rfl
def two (l : List UInt8) (i : Nat) : Nat := byt l i + 256 * byt l (i + 1)
theorem two_lt (l : List UInt8) (i : Nat) : two l i < 65536 := by have := byt_lt l i; have := byt_lt l (i + 1); unfold two; omega
attribute [go_sem] ByteArray.extract_mk ByteArray.mk_append_mk
theorem wraps_i64_16 (n : Int) (h₀ : 0 ≤ n) (h₁ : n < 2 ^ 16) : IntKind.i64.wrap n = n := IntWalk.i64_in _ (by omega)
theorem two_or (a b : Nat) (ha : a < 256) (hb : b < 256) : bits .or .i64 (a : Int) ((b : Int) * 256) = ((a + 256 * b : Nat) : Int) := by
 have h := bits_join .i64 16 (by decide) wraps_i64_16 8 ((b : Int) * 256) a (by omega) (by omega) (by omega) (by omega) (by omega) (by omega)
 have hc : bits .or .i64 (a : Int) ((b : Int) * 256) = bits .or .i64 ((b : Int) * 256) (a : Int) := by simp only [bits, BitVec.or_comm]
 rw [hc, h]; omega
def Cells (w : World) (p : Option Addr) (cs : List Value) : Prop :=
 cs = [] ∨ ∃ b off, p = some ⟨b, off, none⟩ ∧ b < w.heap.size ∧ ∀ i, i < cs.length → w.cell? ⟨b, off + i, none⟩ = some (cs.getD i undef)
theorem Cells.ext {w w' : World} {p : Option Addr} {cs : List Value} (h : Cells w p cs) (e : Ext w w') : Cells w' p cs := by
 rcases h with h | ⟨b, off, hp, hb, hc⟩
 · exact .inl h
 · exact .inr ⟨b, off, hp, Nat.lt_of_lt_of_le hb e.size, fun i hi => (e.cell b _ hb).trans (hc i hi)⟩
theorem Cells.drop {w : World} {b off : Nat} {cs : List Value} (h : Cells w (some ⟨b, off, none⟩) cs) (k : Nat) : Cells w (some ⟨b, off + k, none⟩) (cs.drop k) := by
 by_cases hk : cs.length ≤ k
 · exact .inl (List.drop_eq_nil_of_le hk)
 rcases h with h | ⟨b', off', hp, hb, hc⟩
 · subst h; simp at hk
 · simp at hp
   obtain ⟨rfl, rfl⟩ := hp
   refine .inr ⟨b, off + k, rfl, hb, fun i hi => ?_⟩
   have := hc (k + i) (by simp at hi; omega)
   rw [Nat.add_assoc, this]
   simp [List.getD]
theorem Cells.take {w : World} {p : Option Addr} {cs : List Value} (h : Cells w p cs) (k : Nat) : Cells w p (cs.take k) := by
 rcases h with h | ⟨b, off, hp, hb, hc⟩
 · subst h; exact .inl (by simp)
 · refine .inr ⟨b, off, hp, hb, fun i hi => ?_⟩
   have hi' : i < k ∧ i < cs.length := by simp at hi; omega
   rw [hc i hi'.2]
   simp [List.getD, hi'.1]
def Strs (w : World) (p : Option Addr) (L : List (List UInt8)) : Prop := Cells w p (L.map fun s => .string ⟨s.toArray⟩)
theorem Strs.ext {w w' : World} {p : Option Addr} {L : List (List UInt8)} (h : Strs w p L) (e : Ext w w') : Strs w' p L := Cells.ext h e
theorem Strs.at {w : World} {p : Option Addr} {L : List (List UInt8)} (h : Strs w p L) (k : Nat) (hk : k < L.length) :
   ∃ b off, p = some ⟨b, off, none⟩ ∧ b < w.heap.size ∧ ∀ i, i < L.length → w.cell? ⟨b, off + i, none⟩ = some (.string ⟨(L.getD i []).toArray⟩) := by
 rcases h with h | ⟨b, off, hp, hb, hc⟩
 · have := congrArg List.length h; simp at this; simp [this] at hk
 · refine ⟨b, off, hp, hb, fun i hi => ?_⟩
   rw [hc i (by simpa using hi)]
   simp [List.getD, hi]
def Small (L : List (List UInt8)) : Prop := L.length ≤ 1000000 ∧ ∀ s ∈ L, s.length ≤ 1000000
theorem Small.at {L : List (List UInt8)} (h : Small L) (i : Nat) : (L.getD i []).length ≤ 1000000 := by
 by_cases hi : i < L.length
 · simp [List.getD, hi]; exact h.2 _ (List.getElem_mem hi)
 · simp [List.getD, List.getElem?_eq_none (Nat.le_of_not_lt hi)]
theorem ret_bool {a b : Bool} (h : a = b) : Ending.returned (.bool a) = .returned (.bool b) := by rw [h]
theorem ret_int {k : IntKind} {a b : Int} (h : a = b) : Ending.returned (.int k a) = .returned (.int k b) := by rw [h]
theorem ret_str {a b : List UInt8} (h : a = b) : Ending.returned (.string ⟨a.toArray⟩) = .returned (.string ⟨b.toArray⟩) := by rw [h]
def byteCells (l : List UInt8) : Array Value := (l.map fun x => Value.int .u8 ((x.toNat : Nat) : Int)).toArray
theorem push_fold : ∀ (l : List UInt8) (r : ByteArray), (l.map fun x => ((x.toNat : Nat) : Int)).foldl (fun r n => r.push (UInt8.ofNat n.toNat)) r = r ++ ⟨l.toArray⟩
 | [], r => by apply ByteArray.ext; simp
 | x :: l, r => by
   simp only [List.map_cons, List.foldl_cons]
   rw [push_fold l]
   apply ByteArray.ext
   simp [ByteArray.data_append, ByteArray.push]
theorem addr_add (b o i : Nat) : (⟨b, o, none⟩ : Addr).add i = ⟨b, o + i, none⟩ := by unfold Addr.add; split <;> simp_all
theorem run_bytes_string {P : Program} (w : World) (src dst e : TypeId) (b o cap : Nat) (l : List UInt8)
   (hs : P.underlying src = some (.slice e)) (he : P.underlying e = some (.int .u8)) (hd : P.underlying dst = some .string)
   (hc : ∀ i, i < l.length → w.cell? ⟨b, o + i, none⟩ = some (.int .u8 (byt l i : Nat))) :
   (convert src dst (.slice (some ⟨b, o, none⟩) l.length cap)).run P w = .ok (.string ⟨l.toArray⟩) w := by
 rw [run_convert_bytes_string w src dst e _ _ _ hs he hd]
 have hl := run_loadCells_list (P := P) w ⟨b, o, none⟩ ((l.map fun x => ((x.toNat : Nat) : Int)).map (Value.int .u8)) (by
   intro j v hv
   have hj : j < l.length := by have := (List.getElem?_eq_some_iff.1 hv).1; simpa using this
   rw [addr_add, hc j hj]
   simp [hj] at hv
   rw [← hv]; simp [byt, List.getD, hj])
 simp only [List.length_map] at hl
 rw [run_bytesToString w _ _ _ _ hl, push_fold]
 congr 2
theorem run_row_string {P : Program} (w : World) (src dst e : TypeId) (b cap n : Nat) (l : List UInt8) (t : TypeId) (fr : Nat × Nat)
   (hs : P.underlying src = some (.slice e)) (he : P.underlying e = some (.int .u8)) (hd : P.underlying dst = some .string)
   (hb : w.heap[b]? = some (.cells (byteCells l) t fr)) (hn : l.length = n) :
   (convert src dst (.slice (some ⟨b, 0, none⟩) n cap)).run P w = .ok (.string ⟨l.toArray⟩) w := by
 subst hn
 refine run_bytes_string w src dst e b 0 cap l hs he hd fun i hi => ?_
 simp [World.cell?, hb, byteCells, hi, byt, List.getD]
theorem run_new_string {P : Program} (w : World) (src dst e : TypeId) (cap n : Nat) (l : List UInt8) (t : TypeId)
   (hs : P.underlying src = some (.slice e)) (he : P.underlying e = some (.int .u8)) (hd : P.underlying dst = some .string) (hn : l.length = n) :
   (convert src dst (.slice (some ⟨w.heap.size, 0, none⟩) n cap)).run P (w.alloc (.cells (byteCells l) t)) = .ok (.string ⟨l.toArray⟩) (w.alloc (.cells (byteCells l) t)) :=
 run_row_string _ src dst e _ cap n l t (0, 0) hs he hd (heap_alloc_new w _) hn
theorem run_make_bytes {P : Program} (w : World) (t e : TypeId) (i : TypeInfo) (c : Nat) (ht : P.underlying t = some (.slice e)) (hi : P.info? e = some i) (hz : i.zero = some (.int .u8 0)) (hs : i.size = 1) (hb : i.bytes = 1)
   (hc : c ≤ 281474976710656) :
   (Instr.makeSlice t (.int .i64 c) (.int .i64 c)).run P w = .ok (.slice (some ⟨w.heap.size, 0, none⟩) c c) (w.alloc (.cells (byteCells (List.replicate c 0)) e)) := by
 rw [run_make w t e i (.int .u8 0) ht hi hz .i64 .i64 c c (by omega) (by omega) (by rw [hb]; omega) (by omega)]
 have e1 : madeCells (Value.cells (.int .u8 0)) (((c : Int)).toNat * i.size) = byteCells (List.replicate c 0) := by
   apply Array.ext
   · simp [madeCells, byteCells, hs]
   · intro j h1 h2
     simp [madeCells, byteCells, Value.cells, Nat.mod_one]
 rw [e1]; simp
structure Ex (w : World) where
 to : World
 ext : Ext w to
@[go_sem] theorem Ex.cell {w : World} (x : Ex w) (b o : Nat) (hb : b < w.heap.size) : x.to.cell? ⟨b, o, none⟩ = w.cell? ⟨b, o, none⟩ := x.ext.cell b o hb
def Blk (w : World) (b : Nat) (o : Obj) : Prop := w.heap[b]? = some o
@[go_sem] theorem Blk.new (w : World) (o : Obj) : Blk (w.alloc o) w.heap.size o := heap_alloc_new w o
@[go_sem] theorem Blk.drew (w : World) (b : Nat) (o : Obj) : Blk w.drew b o = Blk w b o := propext ⟨fun h => h, fun h => h⟩
@[go_sem] theorem Blk.drewN (w : World) (n b : Nat) (o : Obj) : Blk (w.drewN n) b o = Blk w b o := propext ⟨fun h => h, fun h => h⟩
theorem Blk.lt {w : World} {b : Nat} {o : Obj} (h : Blk w b o) : b < w.heap.size := (Array.getElem?_eq_some_iff.1 h).1
theorem Ext.blk {w w' : World} (e : Ext w w') (b : Nat) (o : Obj) (h : Blk w b o) : Blk w' b o := by unfold Blk at *; rw [e.block b (Blk.lt h)]; exact h
theorem Blk.alloc {w : World} {b : Nat} {o : Obj} (h : Blk w b o) (o' : Obj) : Blk (w.alloc o') b o := (Ext.alloc w o').blk b o h
theorem wp_app {P : Program} {w : World} {o : Oper} {a : Act} {K : Act → World → Prop} {Q : Exit → Act → World → Prop} (d s : Operand) (T E : TypeId)
   (ho : o.op = .call { callee := .builtin .append, args := #[d, s], argTypes := #[T, T] })
   (base : Nat) (z : Value) (size bytes : Nat) (ht : P.underlying T = some (.slice E)) (hinfo : (P.info? E).map (fun i => (i.zero, i.size, i.bytes)) = some (some z, size, bytes)) (hzs : z.cells.size = size) (hsz : 0 < size)
   (v : Value) (n : Nat) (xs : List Value) (hv : a.eval d = v) (hown : w.ownsRow base E size v n xs) (b : Nat) (news : List Value) (hs : a.eval s = .slice (some ⟨b, 0, none⟩) 1 1) (hblk : Blk w b (.cells news.toArray E)) (hl : news.length = size)
   (h1 : ∀ u ∈ news, u.oneCell' = true) (hn : n + 1 ≤ 100000000) (hby : bytes ≤ 1000) (hbase : base ≤ w.heap.size)
   (h : ∀ v' w', w'.ownsRow base E size v' (n + 1) (xs ++ news) → w.grownBy w' v.ownBlock → K (a.put o.dst v') w') : o.wp P a w K Q := by
 obtain ⟨i, hi, hz0, hz1, hz2⟩ := info_parts hinfo
 refine wp_append_own w d s T ho base E i z size bytes ht hi hz0 hz1 hz2 hzs hsz v n xs hv hown ⟨b, 0, none⟩ 1 1 news hs (by omega) ?_ h1 (by unfold maxLen; omega) ?_ hbase fun v' w' h2 h3 _ => h v' w' h2 h3
 · intro j u hj
   have hb : w.heap[b]? = some (.cells news.toArray E) := hblk
   simp [addr_add, World.cell?, hb, hj]
 · have : (n + 1) * bytes ≤ 100000000 * 1000 := Nat.mul_le_mul hn hby
   omega
theorem wpList_app {P : Program} {w : World} {ops : Array Oper} {rest : List Oper} {o : Oper} {a : Act} {Q : Exit → Act → World → Prop} (hgd : o.guard = none) (d s : Operand) (T E : TypeId)
   (ho : o.op = .call { callee := .builtin .append, args := #[d, s], argTypes := #[T, T] })
   (base : Nat) (z : Value) (size bytes : Nat) (ht : P.underlying T = some (.slice E)) (hinfo : (P.info? E).map (fun i => (i.zero, i.size, i.bytes)) = some (some z, size, bytes)) (hzs : z.cells.size = size) (hsz : 0 < size)
   (v : Value) (n : Nat) (xs : List Value) (hv : a.eval d = v) (hown : w.ownsRow base E size v n xs) (b : Nat) (news : List Value) (hs : a.eval s = .slice (some ⟨b, 0, none⟩) 1 1) (hblk : Blk w b (.cells news.toArray E)) (hl : news.length = size)
   (h1 : ∀ u ∈ news, u.oneCell' = true) (hn : n + 1 ≤ 100000000) (hby : bytes ≤ 1000) (hbase : base ≤ w.heap.size)
   (h : ∀ v' w', w'.ownsRow base E size v' (n + 1) (xs ++ news) → w.grownBy w' v.ownBlock → wpList P ops Q rest (a.put o.dst v') w') : wpList P ops Q (o :: rest) a w :=
 wpList_plain hgd fun _ hK => wp_app d s T E ho base z size bytes ht hinfo hzs hsz v n xs hv hown b news hs hblk hl h1 hn hby hbase fun v' w' h2 h3 => hK _ _ (h v' w' h2 h3)
theorem own_cells {w : World} {base : Nat} {e : TypeId} {v : Value} {n : Nat} {xs : List Value} (h : w.ownsRow base e 1 v n xs) : ∃ p cap, v = .slice p xs.length cap ∧ Cells w p xs ∧ xs.length ≤ cap ∧ cap ≤ maxLen := by
 obtain ⟨hl, ⟨rfl, rfl⟩ | ⟨g, cap, cur, rfl, _, hg, h1, h2, h3, h4⟩⟩ := h
 · have : xs = [] := List.eq_nil_of_length_eq_zero (by omega)
   subst this
   exact ⟨none, 0, rfl, .inl rfl, by simp, by simp⟩
 · have hn : xs.length = n := by omega
   refine ⟨some ⟨g, 0, none⟩, cap, by rw [hn], .inr ⟨g, 0, rfl, (Array.getElem?_eq_some_iff.1 hg).1, fun i hi => ?_⟩, by omega, h2⟩
   have h5 : xs.getD i undef = xs[i] := by simp [List.getD, hi]
   have h6 : xs[i]? = cur.toList[i]? := by rw [← h4, List.getElem?_take]; simp; omega
   rw [h5]
   simp only [World.cell?, hg]
   simp at h6 ⊢
   rw [← h6]; simp [hi]
theorem Below.of_grown {B : Nat} {w w' : World} {base : Nat} {e : TypeId} {size : Nat} {v : Value} {n : Nat} {xs : List Value} (hg : w.grownBy w' v.ownBlock) (hown : w.ownsRow base e size v n xs) (hB : B ≤ base) (hb : base ≤ w.heap.size) : Below B w w' :=
 (Below.refl B w).grown hg (by omega) fun k hk => by have := hown.lt k hk; omega
theorem Cells.at {w : World} {p : Option Addr} {cs : List Value} (h : Cells w p cs) (k : Nat) (hk : k < cs.length) :
   ∃ b off, p = some ⟨b, off, none⟩ ∧ b < w.heap.size ∧ ∀ i, i < cs.length → w.cell? ⟨b, off + i, none⟩ = some (cs.getD i undef) := by
 rcases h with h | h
 · subst h; simp at hk
 · exact h
theorem getD_ints (l : List Int) (k : Nat) (h : k < l.length) : (l.map (Value.int .i64)).getD k undef = .int .i64 (l.getD k 0) := by simp [List.getD, h]
theorem Strs.drop {w : World} {b off : Nat} {L : List (List UInt8)} (h : Strs w (some ⟨b, off, none⟩) L) (k : Nat) : Strs w (some ⟨b, off + k, none⟩) (L.drop k) := by
 have := Cells.drop h k
 unfold Strs
 rwa [List.map_drop]
theorem Ext.trans' {w a b : World} (h : Ext w a) (k : Below w.heap.size a b) : Ext w b := Below.trans h k
end Dsd
namespace Dsd
open Go Go.RowKit
theorem Blk.val {w : World} {b : Nat} {cs : Array Value} {t : TypeId} (h : Blk w b (.cells cs t)) (i : Nat) (v : Value) (hv : cs[i]? = some v) : w.cell? ⟨b, i, none⟩ = some v := by
 rw [cell_of_row w b i cs t (0, 0) h, hv]
theorem Blk.free {w : World} {b : Nat} {cs : Array Value} {t : TypeId} (h : Blk w b (.cells cs t)) (i : Nat) : w.frozen? ⟨b, i, none⟩ = false := frozen_of_row w b i cs t h
theorem Blk.new1 (w : World) (o : Obj) (b : Nat) (hb : b = w.heap.size) : Blk (w.alloc o) b o := by subst hb; exact Blk.new w o
theorem wp_name {P : Program} {c : Code} {Q : Exit → Act → World → Prop} {a : Act} {W : World} (S : World → Prop) (h : S W) (k : ∀ w, S w → Code.wp P c Q a w) : Code.wp P c Q a W := k W h
structure Chg (g : Nat) (w w' : World) : Prop where
 os : w'.os = w.os
 tape : w'.tape = w.tape
 output : w'.output = w.output
 size : w'.heap.size = w.heap.size
 block : ∀ k, k ≠ g → w'.heap[k]? = w.heap[k]?
theorem Chg.blk {g : Nat} {w w' : World} (c : Chg g w w') {b : Nat} {o : Obj} (h : Blk w b o) (hne : b ≠ g) : Blk w' b o := (c.block b hne).trans h
theorem Chg.ext {g : Nat} {w0 w w' : World} (c : Chg g w w') (h : Ext w0 w) (hg : w0.heap.size ≤ g) : Ext w0 w' :=
 Ext.trans' h ⟨c.os, c.tape, c.output, by rw [c.size]; exact Nat.le_refl _, fun k hk => c.block k (by omega)⟩
theorem Chg.setRow {w : World} {g : Nat} {cs : Array Value} : Chg g w (w.setRow g cs) :=
 ⟨rfl, rfl, rfl, by simp, fun k hk => setRow_other w g k cs hk⟩
theorem Chg.setCell {w : World} {g i : Nat} {v : Value} : Chg g w (w.setCell ⟨g, i, none⟩ v) :=
 ⟨rfl, rfl, rfl, by simp, fun k hk => heap_setCell_other w ⟨g, i, none⟩ k v hk⟩
theorem Chg.trans {g : Nat} {a b c : World} (h : Chg g a b) (k : Chg g b c) : Chg g a c := ⟨k.os.trans h.os, k.tape.trans h.tape, k.output.trans h.output, k.size.trans h.size, fun i hi => (k.block i hi).trans (h.block i hi)⟩
theorem Blk.setRow {w : World} {g : Nat} {old cs : Array Value} {t : TypeId} (h : Blk w g (.cells old t)) : Blk (w.setRow g cs) g (.cells cs t) := setRow_heap w g old cs t _ h
theorem Blk.setCell {w : World} {g i : Nat} {cs : Array Value} {v : Value} {t : TypeId} (h : Blk w g (.cells cs t)) : Blk (w.setCell ⟨g, i, none⟩ v) g (.cells (cs.setIfInBounds i v) t) := heap_setCell_same w g i cs t v h
section
variable {P : Program} {ops : Array Oper} {rest : List Oper} {o : Oper} {a : Act} {w : World} {Q : Exit → Act → World → Prop}
theorem wpList_row (hw : Region.wanted o (yielded ops a.tmps) = true) (ty : TypeId) (x : Operand) (ho : o.op = .load ty x)
   (g : Nat) (hx : a.eval x = .pointer (some ⟨g, 0, none⟩)) (t : TypeId) (cs : Array Value) (d : TypeDesc) (hb : Blk w g (.cells cs t)) (hu : P.underlying ty = some d) (hd : (match d with | .struct _ | .array _ _ => true | _ => false) = true)
   (hi : (P.info? ty).map (·.size) = some cs.size) (h : wpList P ops Q rest (a.put o.dst (.agg cs)) w) : wpList P ops Q (o :: rest) a w :=
 BigFrame.wpList_want hw fun _ hK => wp_load_row ty x ho g hx t cs (0, 0) d hb hu hd hi (hK _ _ h)
theorem wpList_part (hw : Region.wanted o (yielded ops a.tmps) = true) (ty : TypeId) (x : Operand) (ho : o.op = .load ty x)
   (g off : Nat) (hx : a.eval x = .pointer (some ⟨g, off, none⟩)) (t : TypeId) (all cs : Array Value) (d : TypeDesc) (hb : Blk w g (.cells all t)) (hc : ∀ j (hj : j < cs.size), all[off + j]? = some cs[j]) (hu : P.underlying ty = some d)
   (hd : (match d with | .struct _ | .array _ _ => true | _ => false) = true) (hi : (P.info? ty).map (·.size) = some cs.size) (h : wpList P ops Q rest (a.put o.dst (.agg cs)) w) : wpList P ops Q (o :: rest) a w := by
 refine BigFrame.wpList_want hw fun _ hK => ?_
 have hl : (loadCells ⟨g, off, none⟩ cs.toList.length).run P w = .ok cs.toList.toArray w :=
   run_loadCells_list (P := P) w ⟨g, off, none⟩ cs.toList (fun j v hv => by
     rw [addr_add, cell_of_row w g (off + j) all t (0, 0) hb]
     have hj : j < cs.size := by have := (List.getElem?_eq_some_iff.1 hv).1; simpa using this
     rw [hc j hj]
     simp [hj] at hv
     rw [← hv])
 have hlv : (loadVar ty ⟨g, off, none⟩).run P w = .ok (.agg cs) w := by
   cases hq : P.info? ty with
   | none => simp [hq] at hi
   | some i =>
     have hs : i.size = cs.size := by simpa [hq] using hi
     have hagg : (isAgg ty).run P w = .ok true w := by
       unfold isAgg
       rw [Sem.run_bind, run_underlying hu w]
       cases d <;> simp_all
     simp only [Array.length_toList, Array.toArray_toList] at hl
     simp [loadVar, Sem.run_bind, hagg, Go.sizeOf, typeInfo, hq, hs, hl]
 unfold Oper.wp execOp
 simp only [ho, hx, Instr.loadAt, Instr.sureAddr, Sem.run_bind, Sem.run_pure, Result.andThen_ok, hlv]
 exact hK _ _ h
theorem wpList_put (hw : Region.wanted o (yielded ops a.tmps) = true) (ty : TypeId) (x y : Operand) (ho : o.op = .store ty x y)
   (g : Nat) (cells : Array Value) (hx : a.eval x = .pointer (some ⟨g, 0, none⟩)) (hy : a.eval y = .agg cells)
   (t : TypeId) (old : Array Value) (hb : Blk w g (.cells old t)) (hi : (P.info? ty).map (·.size) = some cells.size) (hold : old.size = cells.size) (h1 : cells.all (·.oneCell') = true)
   (h : ∀ w', Blk w' g (.cells cells t) → Chg g w w' → wpList P ops Q rest (a.put o.dst undef) w') : wpList P ops Q (o :: rest) a w :=
 BigFrame.wpList_want hw fun _ hK => wp_store_row ty x y ho g cells hx hy t old hb hi hold h1 (hK _ _ (h _ (Blk.setRow hb) Chg.setRow))
theorem wpList_bld (hw : Region.wanted o (yielded ops a.tmps) = true) (t : TypeId) (parts : Array (Nat × Operand)) (ho : o.op = .build t parts) (vs : List (Nat × Value)) (hvs : (parts.map fun (i, x) => (i, a.eval x)).toList = vs)
   (cs : Array Value) (hb : P.built t vs = some cs) (h : wpList P ops Q rest (a.put o.dst (.agg cs)) w) : wpList P ops Q (o :: rest) a w :=
 BigFrame.wpList_want hw fun _ hK => wp_build t parts ho (by rw [hvs, hb]; rfl) (by rw [hvs, hb]; exact hK _ _ h)
end
theorem results_row1 {P : Program} {fn : Func} {p t1 : Tmp} {ty : TypeId} (h : fn.results = #[.cell p ty, .tmp t1]) (tmps : Array Value) (w : World) (g : Nat) (t : TypeId) (cs : Array Value) (d : TypeDesc)
   (hp : tmps.getD p undef = .pointer (some ⟨g, 0, none⟩)) (hg : Blk w g (.cells cs t)) (hu : P.underlying ty = some d) (hd : (match d with | .struct _ | .array _ _ => true | _ => false) = true) (hi : (P.info? ty).map (·.size) = some cs.size) :
   (results fn tmps).run P w = .ok (.tuple #[.agg cs, tmps.getD t1 undef]) w := by
 have hp' : tmps[p]?.getD undef = .pointer (some ⟨g, 0, none⟩) := by simpa using hp
 have hlr := run_loadVar_row w g t ty cs (0, 0) d hg hu hd hi
 simp [results, h, hp', asAddr, hlr, Sem.run_bind]
theorem results_row2 {P : Program} {fn : Func} {p t1 t2 : Tmp} {ty : TypeId} (h : fn.results = #[.cell p ty, .tmp t1, .tmp t2]) (tmps : Array Value) (w : World) (g : Nat) (t : TypeId) (cs : Array Value) (d : TypeDesc)
   (hp : tmps.getD p undef = .pointer (some ⟨g, 0, none⟩)) (hg : Blk w g (.cells cs t)) (hu : P.underlying ty = some d) (hd : (match d with | .struct _ | .array _ _ => true | _ => false) = true) (hi : (P.info? ty).map (·.size) = some cs.size) :
   (results fn tmps).run P w = .ok (.tuple #[.agg cs, tmps.getD t1 undef, tmps.getD t2 undef]) w := by
 have hp' : tmps[p]?.getD undef = .pointer (some ⟨g, 0, none⟩) := by simpa using hp
 have hlr := run_loadVar_row w g t ty cs (0, 0) d hg hu hd hi
 simp [results, h, hp', asAddr, hlr, Sem.run_bind]
end Dsd
namespace Go.Proofs.YtifmbcjbccedfaaGreatDoor
open Go.RowKit Dsd
theorem infoStr : (Tryz.prog.info? 9).map (fun i => (i.zero, i.size, i.bytes)) = some (some (.string ByteArray.empty), 1, 16) := by kernel_rfl
theorem own_le {w : World} {base base' : Nat} {e : TypeId} {size : Nat} {v : Value} {n : Nat} {xs : List Value} (h : w.ownsRow base e size v n xs) (hb : base' ≤ base) : w.ownsRow base' e size v n xs := by
 obtain ⟨hl, h | ⟨g, cap, cur, h1, h2, h3⟩⟩ := h
 · exact ⟨hl, .inl h⟩
 · exact ⟨hl, .inr ⟨g, cap, cur, h1, Nat.le_trans hb h2, h3⟩⟩
theorem infoStrW : (Tryz.prog.info? 9).map (fun i => (i.zero, i.size, i.bytes)) = some (some (.string ByteArray.empty), 1, 16) := by kernel_rfl
theorem own_ext {w w' : World} {base : Nat} {e : TypeId} {size : Nat} {v : Value} {n : Nat} {xs : List Value} (h : w.ownsRow base e size v n xs) (he : Ext w w') : w'.ownsRow base e size v n xs :=
 h.kept (row := none) ⟨he.os, he.tape, he.output, he.size, fun k hk _ => he.block k hk⟩ (by cases v.ownBlock <;> simp)
theorem Blk.cell {w : World} {b : Nat} {v : Value} {t : TypeId} (h : Blk w b (.cells #[v] t)) : w.cell? ⟨b, 0, none⟩ = some v := by
 have hb : w.heap[b]? = _ := h
 simp [World.cell?, hb]
theorem Blk.soft {w : World} {b : Nat} {v : Value} {t : TypeId} (h : Blk w b (.cells #[v] t)) : w.frozen? ⟨b, 0, none⟩ = false := by
 have hb : w.heap[b]? = _ := h
 simp [World.frozen?, hb]
theorem Blk.grown {w w' : World} {row : Option Nat} {b : Nat} {o : Obj} (h : Blk w b o) (hg : w.grownBy w' row) (hne : row ≠ some b) : Blk w' b o := (hg.block b (Blk.lt h) (Ne.symm hne)).trans h
theorem Blk.other {w : World} {b : Nat} {o : Obj} (h : Blk w b o) (c : Nat) (v : Value) (hne : b ≠ c) : Blk (w.setCell ⟨c, 0, none⟩ v) b o := (heap_setCell_other w ⟨c, 0, none⟩ b v hne).trans h
theorem Blk.put {w : World} {b : Nat} {v u : Value} {t : TypeId} (h : Blk w b (.cells #[v] t)) : Blk (w.setCell ⟨b, 0, none⟩ u) b (.cells #[u] t) := by
 have := heap_setCell_same w b 0 _ _ u h
 unfold Blk; rw [this]; rfl
theorem own_chg {g : Nat} {w w' : World} {base : Nat} {e : TypeId} {size : Nat} {v : Value} {n : Nat} {xs : List Value} (h : w.ownsRow base e size v n xs) (c : Chg g w w') (hg : g < base) : w'.ownsRow base e size v n xs := by
 refine h.kept (row := some g) ⟨c.os, c.tape, c.output, by rw [c.size]; exact Nat.le_refl _, fun k _ hk => c.block k (fun e => hk (by rw [e]))⟩ ?_
 cases hv : v.ownBlock with
 | none => exact .inl rfl
 | some k => right; intro he; have := (h.lt k hv).1; simp at he; omega
theorem wp_apps {P : Program} {w : World} {o : Oper} {a : Act} {K : Act → World → Prop} {Q : Exit → Act → World → Prop} (d s : Operand) (T E : TypeId)
   (ho : o.op = .call { callee := .builtin .append, args := #[d, s], argTypes := #[T, T] })
   (base : Nat) (z : Value) (bytes : Nat) (ht : P.underlying T = some (.slice E)) (hinfo : (P.info? E).map (fun i => (i.zero, i.size, i.bytes)) = some (some z, 1, bytes)) (hzs : z.cells.size = 1)
   (v : Value) (n : Nat) (xs : List Value) (hv : a.eval d = v) (hown : w.ownsRow base E 1 v n xs) (p : Option Addr) (m c : Nat) (news : List Value) (hs : a.eval s = .slice p m c) (hp : p.isSome) (hl : news.length = m) (hc : Cells w p news)
   (h1 : ∀ u ∈ news, u.oneCell' = true) (hn : n + m ≤ 100000000) (hby : bytes ≤ 1000) (hbase : base ≤ w.heap.size)
   (h : ∀ v' w', w'.ownsRow base E 1 v' (n + m) (xs ++ news) → w.grownBy w' v.ownBlock → K (a.put o.dst v') w') : o.wp P a w K Q := by
 obtain ⟨i, hi, hz0, hz1, hz2⟩ := info_parts hinfo
 obtain ⟨ad, rfl⟩ := Option.isSome_iff_exists.1 hp
 refine wp_append_own w d s T ho base E i z 1 bytes ht hi hz0 hz1 hz2 hzs (by decide) v n xs hv hown ad m c news hs (by omega) ?_ h1 (by unfold maxLen; omega) ?_ hbase fun v' w' h2 h3 _ => h v' w' h2 h3
 · intro j u hj
   have hjl : j < news.length := (List.getElem?_eq_some_iff.1 hj).1
   rcases hc with hc | ⟨b, off, he, hb, hcc⟩
   · subst hc; simp at hjl
   · obtain rfl := Option.some.inj he
     rw [addr_add, hcc j hjl]
     simp [List.getD, hj]
 · have : (n + m) * bytes ≤ 100000000 * 1000 := Nat.mul_le_mul hn hby
   omega
theorem wpList_apps {P : Program} {w : World} {ops : Array Oper} {rest : List Oper} {o : Oper} {a : Act} {Q : Exit → Act → World → Prop} (hgd : Region.wanted o (yielded ops a.tmps) = true) (d s : Operand) (T E : TypeId)
   (ho : o.op = .call { callee := .builtin .append, args := #[d, s], argTypes := #[T, T] })
   (base : Nat) (z : Value) (bytes : Nat) (ht : P.underlying T = some (.slice E)) (hinfo : (P.info? E).map (fun i => (i.zero, i.size, i.bytes)) = some (some z, 1, bytes)) (hzs : z.cells.size = 1)
   (v : Value) (n : Nat) (xs : List Value) (hv : a.eval d = v) (hown : w.ownsRow base E 1 v n xs) (p : Option Addr) (m c : Nat) (news : List Value) (hs : a.eval s = .slice p m c) (hp : p.isSome) (hl : news.length = m) (hc : Cells w p news)
   (h1 : ∀ u ∈ news, u.oneCell' = true) (hn : n + m ≤ 100000000) (hby : bytes ≤ 1000) (hbase : base ≤ w.heap.size)
   (h : ∀ v' w', w'.ownsRow base E 1 v' (n + m) (xs ++ news) → w.grownBy w' v.ownBlock → wpList P ops Q rest (a.put o.dst v') w') : wpList P ops Q (o :: rest) a w :=
 BigFrame.wpList_want hgd fun _ hK => wp_apps d s T E ho base z bytes ht hinfo hzs v n xs hv hown p m c news hs hp hl hc h1 hn hby hbase fun v' w' h2 h3 => hK _ _ (h v' w' h2 h3)
theorem strs_one (L : List (List UInt8)) : ∀ u ∈ (L.map fun s => Value.string ⟨s.toArray⟩), u.oneCell' = true := by
 intro u hu
 simp only [List.mem_map] at hu
 obtain ⟨s, _, rfl⟩ := hu
 rfl
theorem own_slice {w : World} {base : Nat} {e : TypeId} {size : Nat} {v : Value} {n : Nat} {xs : List Value} (h : w.ownsRow base e size v n xs) : ∃ q c, v = .slice q n c := by
 obtain ⟨hl, ⟨rfl, rfl⟩ | ⟨g, cap, cur, rfl, _⟩⟩ := h
 · exact ⟨none, 0, rfl⟩
 · exact ⟨_, _, rfl⟩
theorem own_set {w : World} {base : Nat} {e : TypeId} {q : Option Addr} {n c : Nat} {xs : List Value} (h : w.ownsRow base e 1 (.slice q n c) n xs) (i : Nat) (hi : i < n) :
   ∃ g, q = some ⟨g, 0, none⟩ ∧ base ≤ g ∧ g < w.heap.size ∧ w.frozen? ⟨g, i, none⟩ = false ∧ w.cell? ⟨g, i, none⟩ = some (xs.getD i undef) ∧ ∀ u, (w.setCell ⟨g, i, none⟩ u).ownsRow base e 1 (.slice q n c) n (xs.set i u) ∧ Below base w (w.setCell ⟨g, i, none⟩ u) := by
 obtain ⟨hl, ⟨h1, h2⟩ | ⟨g, cap, cur, h1, h2, h3, h4, h5, h6, h7⟩⟩ := h
 · omega
 · simp at h1
   obtain ⟨rfl, rfl⟩ := h1
   have hb : Blk w g (.cells cur e) := h3
   refine ⟨g, rfl, h2, Blk.lt hb, Blk.free hb i, ?_, fun u => ⟨⟨by simp [hl], .inr ⟨g, c, cur.setIfInBounds i u, rfl, h2, Blk.setCell hb, h4, h5, by simp [h6], ?_⟩⟩, (Below.refl _ _).setCell h2 _⟩⟩
   · have hx : xs[i]? = cur[i]? := by rw [← h7, List.getElem?_take, if_pos (by omega)]; simp
     have hic : i < cur.size := by omega
     rw [Blk.val hb i (cur[i]) (by simp [hic])]
     simp only [List.getD, hx]
     simp [hic]
   · rw [← h7]
     simp [List.take_set]
theorem set_strs (L : List (List UInt8)) (i : Nat) (r : List UInt8) : (L.map fun s => Value.string ⟨s.toArray⟩).set i (.string ⟨r.toArray⟩) = (L.set i r).map fun s => Value.string ⟨s.toArray⟩ := by
 rw [List.map_set]
theorem own_strs_p {w : World} {base : Nat} {e : TypeId} {v : Value} {n : Nat} {L : List (List UInt8)} (h : w.ownsRow base e 1 v n (L.map fun s => .string ⟨s.toArray⟩)) : ∃ q c, v = .slice q n c ∧ Strs w q L ∧ L.length = n ∧ n ≤ c ∧ c ≤ maxLen := by
 have hl : L.length = n := by have := h.1; simpa using this
 obtain ⟨q, c, rfl, hc, h1, h2⟩ := own_cells h
 simp at h1
 exact ⟨q, c, by simp [hl], hc, hl, by omega, h2⟩
theorem own_strs3 {w : World} {base : Nat} {e : TypeId} {q : Option Addr} {n c : Nat} {L : List (List UInt8)} (h : w.ownsRow base e 1 (.slice q n c) n (L.map fun s => .string ⟨s.toArray⟩)) : Strs w q L := by
 obtain ⟨_, _, hqq, hss, _⟩ := own_strs_p h
 cases hqq; exact hss
end Go.Proofs.YtifmbcjbccedfaaGreatDoor
