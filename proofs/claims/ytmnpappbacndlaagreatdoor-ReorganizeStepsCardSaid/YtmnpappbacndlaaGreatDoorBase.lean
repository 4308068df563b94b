/- Words and small laws of our own, over any program: worlds that only grow, lists of bytes as strings, a slice of strings that is read. -/
import Derived.WalkKit
import Derived.WalkSpells
import Derived.WalkLawsBesides
import Derived.Deep.QuietTactic
import Derived.BigQuiet
import Derived.BigRegion
import Derived.LoopTactic
import Derived.Lib.Hide
import Derived.KernelRfl
set_option linter.unusedSimpArgs false
set_option linter.unusedVariables false
namespace Dsd
open Go Go.RowKit

/-- The world w' is w with new blocks: nothing that was there has turned. -/
def Ext (w w' : World) : Prop := Below w.heap.size w w'
theorem Ext.refl (w : World) : Ext w w := Below.refl _ _
theorem Ext.size {w w' : World} (h : Ext w w') : w.heap.size ≤ w'.heap.size := Below.size h
theorem Ext.trans {a b c : World} (h : Ext a b) (k : Ext b c) : Ext a c := Below.trans h (Below.mono k h.size)
theorem Ext.drewN (w : World) (n : Nat) : Ext w (w.drewN n) := ⟨rfl, rfl, rfl, Nat.le_refl _, fun _ _ => rfl⟩
theorem Ext.drew (w : World) : Ext w w.drew := ⟨rfl, rfl, rfl, Nat.le_refl _, fun _ _ => rfl⟩
theorem Ext.of_drawn {w w' : World} (h : ∃ n, w' = w.drewN n) : Ext w w' := by obtain ⟨n, rfl⟩ := h; exact Ext.drewN w n
theorem Ext.of_eq {w w' : World} (h : w = w') : Ext w w' := by subst h; exact Ext.refl w
theorem Ext.alloc (w : World) (o : Obj) : Ext w (w.alloc o) := Below.alloc (Below.refl _ _) (Nat.le_refl _) o
theorem Ext.cell {w w' : World} (h : Ext w w') (b o : Nat) (hb : b < w.heap.size) : w'.cell? ⟨b, o, none⟩ = w.cell? ⟨b, o, none⟩ := Below.cell (p := ⟨b, o, none⟩) h hb
theorem Ext.frozen {w w' : World} (h : Ext w w') (b o : Nat) (hb : b < w.heap.size) : w'.frozen? ⟨b, o, none⟩ = w.frozen? ⟨b, o, none⟩ := Below.frozen (p := ⟨b, o, none⟩) h hb
theorem Ext.block {w w' : World} (h : Ext w w') (b : Nat) (hb : b < w.heap.size) : w'.heap[b]? = w.heap[b]? := Below.block h b hb

/-- The byte at a place, as a number. -/
def byt (l : List UInt8) (i : Nat) : Nat := (l.getD i 0).toNat
theorem byt_lt (l : List UInt8) (i : Nat) : byt l i < 256 := (l.getD i 0).toNat_lt

/-- What the walk's reading of a byte comes to. -/
@[go_sem] theorem byt_fold (l : List UInt8) (i : Nat) (h : i < (ByteArray.mk l.toArray).size) : ((ByteArray.mk l.toArray)[i]'h).toNat = byt l i := by
  have h2 : i < l.length := by simpa [ByteArray.size] using h
  have e : ((ByteArray.mk l.toArray)[i]'h) = l.getD i 0 := by simp [List.getD, h2]; rfl
  rw [e]; rfl
/-- The number in two bytes, the least significant one first. -/
def two (l : List UInt8) (i : Nat) : Nat := byt l i + 256 * byt l (i + 1)
theorem two_lt (l : List UInt8) (i : Nat) : two l i < 65536 := by have := byt_lt l i; have := byt_lt l (i + 1); unfold two; omega
attribute [go_sem] ByteArray.extract_mk ByteArray.mk_append_mk
theorem wraps_i64_16 (n : Int) (h₀ : 0 ≤ n) (h₁ : n < 2 ^ 16) : IntKind.i64.wrap n = n := IntWalk.i64_in _ (by omega)
theorem two_or (a b : Nat) (ha : a < 256) (hb : b < 256) : bits .or .i64 (a : Int) ((b : Int) * 256) = ((a + 256 * b : Nat) : Int) := by
  have h := bits_join .i64 16 (by decide) wraps_i64_16 8 ((b : Int) * 256) a (by omega) (by omega) (by omega) (by omega) (by omega) (by omega)
  have hc : bits .or .i64 (a : Int) ((b : Int) * 256) = bits .or .i64 ((b : Int) * 256) (a : Int) := by simp only [bits, BitVec.or_comm]
  rw [hc, h]; omega

/-- A slice that leads to the cells 'cs' (of one cell each), in the world w. -/
def Cells (w : World) (p : Option Addr) (cs : List Value) : Prop :=
  cs = [] ∨ ∃ b off, p = some ⟨b, off, none⟩ ∧ b < w.heap.size ∧ ∀ i, i < cs.length → w.cell? ⟨b, off + i, none⟩ = some (cs.getD i undef)
theorem Cells.ext {w w' : World} {p : Option Addr} {cs : List Value} (h : Cells w p cs) (e : Ext w w') : Cells w' p cs := by
  rcases h with h | ⟨b, off, hp, hb, hc⟩
  · exact .inl h
  · exact .inr ⟨b, off, hp, Nat.lt_of_lt_of_le hb e.size, fun i hi => (e.cell b _ hb).trans (hc i hi)⟩
/-- Its tail from k on. -/
theorem Cells.drop {w : World} {b off : Nat} {cs : List Value} (h : Cells w (some ⟨b, off, none⟩) cs) (k : Nat) : Cells w (some ⟨b, off + k, none⟩) (cs.drop k) := by
  by_cases hk : cs.length ≤ k
  · exact .inl (List.drop_eq_nil_of_le hk)
  rcases h with h | ⟨b', off', hp, hb, hc⟩
  · subst h; simp at hk
  · simp at hp
    obtain ⟨rfl, rfl⟩ := hp
    refine .inr ⟨b, off + k, rfl, hb, fun i hi => ?_⟩
    have := hc (k + i) (by simp at hi; omega)
    rw [Nat.add_assoc, this]
    simp [List.getD]
theorem Cells.take {w : World} {p : Option Addr} {cs : List Value} (h : Cells w p cs) (k : Nat) : Cells w p (cs.take k) := by
  rcases h with h | ⟨b, off, hp, hb, hc⟩
  · subst h; exact .inl (by simp)
  · refine .inr ⟨b, off, hp, hb, fun i hi => ?_⟩
    have hi' : i < k ∧ i < cs.length := by simp at hi; omega
    rw [hc i hi'.2]
    simp [List.getD, hi'.1]
/-- A slice of strings that reads as the list L. -/
def Strs (w : World) (p : Option Addr) (L : List (List UInt8)) : Prop := Cells w p (L.map fun s => .string ⟨s.toArray⟩)
theorem Strs.ext {w w' : World} {p : Option Addr} {L : List (List UInt8)} (h : Strs w p L) (e : Ext w w') : Strs w' p L := Cells.ext h e
/-- Where there is an element there is an address; the element's cell. -/
theorem Strs.at {w : World} {p : Option Addr} {L : List (List UInt8)} (h : Strs w p L) (k : Nat) (hk : k < L.length) :
    ∃ b off, p = some ⟨b, off, none⟩ ∧ b < w.heap.size ∧ ∀ i, i < L.length → w.cell? ⟨b, off + i, none⟩ = some (.string ⟨(L.getD i []).toArray⟩) := by
  rcases h with h | ⟨b, off, hp, hb, hc⟩
  · have := congrArg List.length h; simp at this; simp [this] at hk
  · refine ⟨b, off, hp, hb, fun i hi => ?_⟩
    rw [hc i (by simpa using hi)]
    simp [List.getD, hi]
/-- Not more than a million strings of not more than a million bytes. -/
def Small (L : List (List UInt8)) : Prop := L.length ≤ 1000000 ∧ ∀ s ∈ L, s.length ≤ 1000000
theorem Small.at {L : List (List UInt8)} (h : Small L) (i : Nat) : (L.getD i []).length ≤ 1000000 := by
  by_cases hi : i < L.length
  · simp [List.getD, hi]; exact h.2 _ (List.getElem_mem hi)
  · simp [List.getD, List.getElem?_eq_none (Nat.le_of_not_lt hi)]
/-- What a call hands back, by what it comes to. -/
theorem ret_bool {a b : Bool} (h : a = b) : Ending.returned (.bool a) = .returned (.bool b) := by rw [h]
theorem ret_int {k : IntKind} {a b : Int} (h : a = b) : Ending.returned (.int k a) = .returned (.int k b) := by rw [h]
theorem ret_str {a b : List UInt8} (h : a = b) : Ending.returned (.string ⟨a.toArray⟩) = .returned (.string ⟨b.toArray⟩) := by rw [h]

/-! ### Bytes in memory -/
/-- A row of cells that holds these bytes. -/
def byteCells (l : List UInt8) : Array Value := (l.map fun x => Value.int .u8 ((x.toNat : Nat) : Int)).toArray
theorem push_fold : ∀ (l : List UInt8) (r : ByteArray), (l.map fun x => ((x.toNat : Nat) : Int)).foldl (fun r n => r.push (UInt8.ofNat n.toNat)) r = r ++ ⟨l.toArray⟩
  | [], r => by apply ByteArray.ext; simp
  | x :: l, r => by
    simp only [List.map_cons, List.foldl_cons]
    rw [push_fold l]
    apply ByteArray.ext
    simp [ByteArray.data_append, ByteArray.push]
theorem addr_add (b o i : Nat) : (⟨b, o, none⟩ : Addr).add i = ⟨b, o + i, none⟩ := by unfold Addr.add; split <;> simp_all
/-- 'string(x)', x a slice of bytes whose cells are known. -/
theorem run_bytes_string {P : Program} (w : World) (src dst e : TypeId) (b o cap : Nat) (l : List UInt8)
    (hs : P.underlying src = some (.slice e)) (he : P.underlying e = some (.int .u8)) (hd : P.underlying dst = some .string)
    (hc : ∀ i, i < l.length → w.cell? ⟨b, o + i, none⟩ = some (.int .u8 (byt l i : Nat))) :
    (convert src dst (.slice (some ⟨b, o, none⟩) l.length cap)).run P w = .ok (.string ⟨l.toArray⟩) w := by
  rw [run_convert_bytes_string w src dst e _ _ _ hs he hd]
  have hl := run_loadCells_list (P := P) w ⟨b, o, none⟩ ((l.map fun x => ((x.toNat : Nat) : Int)).map (Value.int .u8)) (by
    intro j v hv
    have hj : j < l.length := by have := (List.getElem?_eq_some_iff.1 hv).1; simpa using this
    rw [addr_add, hc j hj]
    simp [hj] at hv
    rw [← hv]; simp [byt, List.getD, hj])
  simp only [List.length_map] at hl
  rw [run_bytesToString w _ _ _ _ hl, push_fold]
  congr 2
/-- .. of a row of the call's own. -/
theorem run_row_string {P : Program} (w : World) (src dst e : TypeId) (b cap n : Nat) (l : List UInt8) (t : TypeId) (fr : Nat × Nat)
    (hs : P.underlying src = some (.slice e)) (he : P.underlying e = some (.int .u8)) (hd : P.underlying dst = some .string)
    (hb : w.heap[b]? = some (.cells (byteCells l) t fr)) (hn : l.length = n) :
    (convert src dst (.slice (some ⟨b, 0, none⟩) n cap)).run P w = .ok (.string ⟨l.toArray⟩) w := by
  subst hn
  refine run_bytes_string w src dst e b 0 cap l hs he hd fun i hi => ?_
  simp [World.cell?, hb, byteCells, hi, byt, List.getD]
theorem run_new_string {P : Program} (w : World) (src dst e : TypeId) (cap n : Nat) (l : List UInt8) (t : TypeId)
    (hs : P.underlying src = some (.slice e)) (he : P.underlying e = some (.int .u8)) (hd : P.underlying dst = some .string) (hn : l.length = n) :
    (convert src dst (.slice (some ⟨w.heap.size, 0, none⟩) n cap)).run P (w.alloc (.cells (byteCells l) t)) = .ok (.string ⟨l.toArray⟩) (w.alloc (.cells (byteCells l) t)) :=
  run_row_string _ src dst e _ cap n l t (0, 0) hs he hd (heap_alloc_new w _) hn
/-- 'make([]byte, n)'. -/
theorem run_make_bytes {P : Program} (w : World) (t e : TypeId) (i : TypeInfo) (c : Nat) (ht : P.underlying t = some (.slice e)) (hi : P.info? e = some i) (hz : i.zero = some (.int .u8 0)) (hs : i.size = 1) (hb : i.bytes = 1)
    (hc : c ≤ 281474976710656) :
    (Instr.makeSlice t (.int .i64 c) (.int .i64 c)).run P w = .ok (.slice (some ⟨w.heap.size, 0, none⟩) c c) (w.alloc (.cells (byteCells (List.replicate c 0)) e)) := by
  rw [run_make w t e i (.int .u8 0) ht hi hz .i64 .i64 c c (by omega) (by omega) (by rw [hb]; omega) (by omega)]
  have e1 : madeCells (Value.cells (.int .u8 0)) (((c : Int)).toNat * i.size) = byteCells (List.replicate c 0) := by
    apply Array.ext
    · simp [madeCells, byteCells, hs]
    · intro j h1 h2
      simp [madeCells, byteCells, Value.cells, Nat.mod_one]
  rw [e1]; simp
theorem byteCells3 (x y z : Nat) (hx : x < 256) (hy : y < 256) (hz : z < 256) : #[Value.int .u8 (x : Int), Value.int .u8 (y : Int), Value.int .u8 (z : Int)] = byteCells [UInt8.ofNat x, UInt8.ofNat y, UInt8.ofNat z] := by
  simp [byteCells, Nat.mod_eq_of_lt hx, Nat.mod_eq_of_lt hy, Nat.mod_eq_of_lt hz]
theorem byteCells4 (x y z u : Nat) (hx : x < 256) (hy : y < 256) (hz : z < 256) (hu : u < 256) :
    #[Value.int .u8 (x : Int), Value.int .u8 (y : Int), Value.int .u8 (z : Int), Value.int .u8 (u : Int)] = byteCells [UInt8.ofNat x, UInt8.ofNat y, UInt8.ofNat z, UInt8.ofNat u] := by
  simp [byteCells, Nat.mod_eq_of_lt hx, Nat.mod_eq_of_lt hy, Nat.mod_eq_of_lt hz, Nat.mod_eq_of_lt hu]

/-! ### A region that draws its order, whose calls make memory: what is known of the world is that it has grown -/
/-- The worlds that extend w. -/
structure Ex (w : World) where
  to : World
  ext : Ext w to
instance (w : World) : Nonempty (Ex w) := ⟨⟨w, Ext.refl w⟩⟩
@[go_sem] theorem Ex.cell {w : World} (x : Ex w) (b o : Nat) (hb : b < w.heap.size) : x.to.cell? ⟨b, o, none⟩ = w.cell? ⟨b, o, none⟩ := x.ext.cell b o hb
theorem ext_of {P : Program} {f : FuncId} {args : Array Value} {w : World} {x : Ex w} {v : Value}
    (h : Calls P f args x.to fun e w' => e = .returned v ∧ Ext x.to w') : Calls P f args x.to fun e w'' => e = .returned v ∧ ∃ y : Ex w, w'' = y.to :=
  h.mono fun _ _ ⟨he, hw⟩ => ⟨he, ⟨_, x.ext.trans hw⟩, rfl⟩
theorem wp_region_ext {P : Program} {id : Nat} {Q : Exit → Act → World → Prop} {a : Act} {w w0 : World} {l : List Oper} (he : Ext w0 w) (hm : P.follows .mixedOrders = true) (hB : Region.lexB .any l.toArray = true)
    (h : wpQuiet P l.toArray (fun w' => ∃ x : Ex w0, w' = x.to) (fun a' => ∀ w', (∃ x : Ex w0, w' = x.to) → Q .normal a' w') l a) : (Code.region id l.toArray true).wp P Q a w :=
  wp_region_quiet (C := fun w' => ∃ x : Ex w0, w' = x.to) hm hB ⟨⟨w.drew, he.trans (Ext.drew w)⟩, rfl⟩ (by simpa using h)
/-- What Go makes of a number's two bytes, behind names of their own (laid ahead of a region that draws). -/
theorem two_parts (n : Nat) (h : n ≤ 65535) : ∃ x y : Nat, x < 256 ∧ y < 256 ∧ (n : Int).tmod 256 = (x : Int) ∧ IntKind.u8.wrap (x : Int) = x ∧ IntKind.i64.wrap ((n : Int) / 256) = (y : Int) ∧ IntKind.u8.wrap (y : Int) = y ∧
    UInt8.ofNat x = UInt8.ofNat n ∧ UInt8.ofNat y = UInt8.ofNat (n / 256) := by
  refine ⟨n % 256, n / 256, by omega, by omega, ?_, IntWalk.u8_in _ (by omega), ?_, IntWalk.u8_in _ (by omega), ?_, rfl⟩
  · rw [Int.tmod_eq_emod_of_nonneg (by omega)]; omega
  · rw [IntWalk.i64_in _ (by omega)]; omega
  · exact UInt8.toNat_inj.1 (by simp)
/-- Block b of the world w is o. -/
def Blk (w : World) (b : Nat) (o : Obj) : Prop := w.heap[b]? = some o
@[go_sem] theorem Blk.new (w : World) (o : Obj) : Blk (w.alloc o) w.heap.size o := heap_alloc_new w o
@[go_sem] theorem Blk.drew (w : World) (b : Nat) (o : Obj) : Blk w.drew b o = Blk w b o := propext ⟨fun h => h, fun h => h⟩
@[go_sem] theorem Blk.drewN (w : World) (n b : Nat) (o : Obj) : Blk (w.drewN n) b o = Blk w b o := propext ⟨fun h => h, fun h => h⟩
theorem Blk.lt {w : World} {b : Nat} {o : Obj} (h : Blk w b o) : b < w.heap.size := (Array.getElem?_eq_some_iff.1 h).1
theorem Ext.blk {w w' : World} (e : Ext w w') (b : Nat) (o : Obj) (h : Blk w b o) : Blk w' b o := by unfold Blk at *; rw [e.block b (Blk.lt h)]; exact h
theorem Blk.alloc {w : World} {b : Nat} {o : Obj} (h : Blk w b o) (o' : Obj) : Blk (w.alloc o') b o := (Ext.alloc w o').blk b o h

/-! ### append of one element to a slice of the call's own -/
theorem wp_app {P : Program} {w : World} {o : Oper} {a : Act} {K : Act → World → Prop} {Q : Exit → Act → World → Prop} (d s : Operand) (T E : TypeId)
    (ho : o.op = .call { callee := .builtin .append, args := #[d, s], argTypes := #[T, T] })
    (base : Nat) (z : Value) (size bytes : Nat) (ht : P.underlying T = some (.slice E)) (hinfo : (P.info? E).map (fun i => (i.zero, i.size, i.bytes)) = some (some z, size, bytes)) (hzs : z.cells.size = size) (hsz : 0 < size)
    (v : Value) (n : Nat) (xs : List Value) (hv : a.eval d = v) (hown : w.ownsRow base E size v n xs) (b : Nat) (news : List Value) (hs : a.eval s = .slice (some ⟨b, 0, none⟩) 1 1) (hblk : Blk w b (.cells news.toArray E)) (hl : news.length = size)
    (h1 : ∀ u ∈ news, u.oneCell' = true) (hn : n + 1 ≤ 100000000) (hby : bytes ≤ 1000) (hbase : base ≤ w.heap.size)
    (h : ∀ v' w', w'.ownsRow base E size v' (n + 1) (xs ++ news) → w.grownBy w' v.ownBlock → K (a.put o.dst v') w') : o.wp P a w K Q := by
  obtain ⟨i, hi, hz0, hz1, hz2⟩ := info_parts hinfo
  refine wp_append_own w d s T ho base E i z size bytes ht hi hz0 hz1 hz2 hzs hsz v n xs hv hown ⟨b, 0, none⟩ 1 1 news hs (by omega) ?_ h1 (by unfold maxLen; omega) ?_ hbase fun v' w' h2 h3 _ => h v' w' h2 h3
  · intro j u hj
    have hb : w.heap[b]? = some (.cells news.toArray E) := hblk
    simp [addr_add, World.cell?, hb, hj]
  · have : (n + 1) * bytes ≤ 100000000 * 1000 := Nat.mul_le_mul hn hby
    omega
theorem wpList_app {P : Program} {w : World} {ops : Array Oper} {rest : List Oper} {o : Oper} {a : Act} {Q : Exit → Act → World → Prop} (hgd : o.guard = none) (d s : Operand) (T E : TypeId)
    (ho : o.op = .call { callee := .builtin .append, args := #[d, s], argTypes := #[T, T] })
    (base : Nat) (z : Value) (size bytes : Nat) (ht : P.underlying T = some (.slice E)) (hinfo : (P.info? E).map (fun i => (i.zero, i.size, i.bytes)) = some (some z, size, bytes)) (hzs : z.cells.size = size) (hsz : 0 < size)
    (v : Value) (n : Nat) (xs : List Value) (hv : a.eval d = v) (hown : w.ownsRow base E size v n xs) (b : Nat) (news : List Value) (hs : a.eval s = .slice (some ⟨b, 0, none⟩) 1 1) (hblk : Blk w b (.cells news.toArray E)) (hl : news.length = size)
    (h1 : ∀ u ∈ news, u.oneCell' = true) (hn : n + 1 ≤ 100000000) (hby : bytes ≤ 1000) (hbase : base ≤ w.heap.size)
    (h : ∀ v' w', w'.ownsRow base E size v' (n + 1) (xs ++ news) → w.grownBy w' v.ownBlock → wpList P ops Q rest (a.put o.dst v') w') : wpList P ops Q (o :: rest) a w :=
  wpList_plain hgd fun _ hK => wp_app d s T E ho base z size bytes ht hinfo hzs hsz v n xs hv hown b news hs hblk hl h1 hn hby hbase fun v' w' h2 h3 => hK _ _ (h v' w' h2 h3)
/-- What is owned reads as a slice. -/
theorem own_cells {w : World} {base : Nat} {e : TypeId} {v : Value} {n : Nat} {xs : List Value} (h : w.ownsRow base e 1 v n xs) : ∃ p cap, v = .slice p xs.length cap ∧ Cells w p xs ∧ xs.length ≤ cap ∧ cap ≤ maxLen := by
  obtain ⟨hl, ⟨rfl, rfl⟩ | ⟨g, cap, cur, rfl, _, hg, h1, h2, h3, h4⟩⟩ := h
  · have : xs = [] := List.eq_nil_of_length_eq_zero (by omega)
    subst this
    exact ⟨none, 0, rfl, .inl rfl, by simp, by simp⟩
  · have hn : xs.length = n := by omega
    refine ⟨some ⟨g, 0, none⟩, cap, by rw [hn], .inr ⟨g, 0, rfl, (Array.getElem?_eq_some_iff.1 hg).1, fun i hi => ?_⟩, by omega, h2⟩
    have h5 : xs.getD i undef = xs[i] := by simp [List.getD, hi]
    have h6 : xs[i]? = cur.toList[i]? := by rw [← h4, List.getElem?_take]; simp; omega
    rw [h5]
    simp only [World.cell?, hg]
    simp at h6 ⊢
    rw [← h6]; simp [hi]
theorem Below.of_grown {B : Nat} {w w' : World} {base : Nat} {e : TypeId} {size : Nat} {v : Value} {n : Nat} {xs : List Value} (hg : w.grownBy w' v.ownBlock) (hown : w.ownsRow base e size v n xs) (hB : B ≤ base) (hb : base ≤ w.heap.size) : Below B w w' :=
  (Below.refl B w).grown hg (by omega) fun k hk => by have := hown.lt k hk; omega

theorem Cells.at {w : World} {p : Option Addr} {cs : List Value} (h : Cells w p cs) (k : Nat) (hk : k < cs.length) :
    ∃ b off, p = some ⟨b, off, none⟩ ∧ b < w.heap.size ∧ ∀ i, i < cs.length → w.cell? ⟨b, off + i, none⟩ = some (cs.getD i undef) := by
  rcases h with h | h
  · subst h; simp at hk
  · exact h
theorem getD_ints (l : List Int) (k : Nat) (h : k < l.length) : (l.map (Value.int .i64)).getD k undef = .int .i64 (l.getD k 0) := by simp [List.getD, h]
theorem own_strs {w : World} {base : Nat} {e : TypeId} {v : Value} {L : List (List UInt8)} (h : w.ownsRow base e 1 v L.length (L.map fun s => .string ⟨s.toArray⟩)) : ∃ p cap, v = .slice p L.length cap ∧ Strs w p L := by
  obtain ⟨p, cap, hv, hc, _⟩ := own_cells h
  exact ⟨p, cap, by simpa using hv, hc⟩
theorem Strs.drop {w : World} {b off : Nat} {L : List (List UInt8)} (h : Strs w (some ⟨b, off, none⟩) L) (k : Nat) : Strs w (some ⟨b, off + k, none⟩) (L.drop k) := by
  have := Cells.drop h k
  unfold Strs
  rwa [List.map_drop]
theorem Ext.trans' {w a b : World} (h : Ext w a) (k : Below w.heap.size a b) : Ext w b := Below.trans h k
end Dsd
