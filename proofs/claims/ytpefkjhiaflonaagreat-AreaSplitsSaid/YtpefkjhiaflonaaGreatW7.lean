/- The walks of the page's methods. -/
import Derived.Test.YtpefkjhiaflonaaGreatW2
import Derived.RegionTactic
import Derived.Deep.DeepMust
import Derived.Lib.BufferWrite
import Derived.Test.YtpefkjhiaflonaaGreatMono
set_option linter.unusedSimpArgs false
set_option linter.unusedVariables false
namespace Go.Proofs.YtpefkjhiaflonaaGreat
open Go.RowKit Dsd

theorem setIf_bytes (l : List UInt8) (i x : Nat) (hx : x < 256) : (byteCells l).setIfInBounds i (.int .u8 (x : Int)) = byteCells (l.set i (UInt8.ofNat x)) := by
  unfold byteCells
  apply Array.ext'
  simp [List.map_set, Nat.mod_eq_of_lt hx]

/-- A page: its three fields, and its bytes. -/
structure Page (W : World) (px bb n l r : Nat) (bytes : List UInt8) : Prop where
  box : Blk W px (.cells #[.slice (some ⟨bb, 0, none⟩) n n, .int .i64 (l : Nat), .int .i64 (r : Nat)] 142)
  row : Blk W bb (.cells (byteCells bytes) 5)
  len : bytes.length = n
  ne : px ≠ bb

/-- Blocks px and bb alone may have turned. -/
structure Only (px bb : Nat) (W W' : World) : Prop where
  os : W'.os = W.os
  tape : W'.tape = W.tape
  output : W'.output = W.output
  size : W.heap.size ≤ W'.heap.size
  block : ∀ k, k < W.heap.size → k ≠ px → k ≠ bb → W'.heap[k]? = W.heap[k]?
theorem Only.refl (px bb : Nat) (W : World) : Only px bb W W := ⟨rfl, rfl, rfl, Nat.le_refl _, fun _ _ _ _ => rfl⟩
theorem Only.trans {px bb : Nat} {a b c : World} (h : Only px bb a b) (k : Only px bb b c) : Only px bb a c :=
  ⟨k.os.trans h.os, k.tape.trans h.tape, k.output.trans h.output, Nat.le_trans h.size k.size, fun i hi h1 h2 => (k.block i (Nat.lt_of_lt_of_le hi h.size) h1 h2).trans (h.block i hi h1 h2)⟩
theorem Only.drewN {px bb : Nat} {a b : World} (h : Only px bb a b) (n : Nat) : Only px bb a (b.drewN n) := ⟨h.os, h.tape, h.output, h.size, h.block⟩
theorem Only.drew {px bb : Nat} {a b : World} (h : Only px bb a b) : Only px bb a b.drew := ⟨h.os, h.tape, h.output, h.size, h.block⟩
theorem Only.of_ext {px bb : Nat} {a b : World} (h : Ext a b) : Only px bb a b := ⟨h.os, h.tape, h.output, h.size, fun k hk _ _ => Ext.block h k hk⟩
theorem Only.set {px bb : Nat} {a b : World} (h : Only px bb a b) (x : Addr) (v : Value) (hx : x.block = px ∨ x.block = bb) : Only px bb a (b.setCell x v) :=
  h.trans ⟨rfl, rfl, rfl, by simp, fun k hk h1 h2 => heap_setCell_other _ _ _ _ (by rcases hx with h | h <;> omega)⟩
theorem Only.ext {px bb : Nat} {w a b : World} (h : Only px bb a b) (he : Ext w a) (h1 : w.heap.size ≤ px) (h2 : w.heap.size ≤ bb) : Ext w b :=
  he.trans' ⟨h.os, h.tape, h.output, h.size, fun k hk => h.block k (Nat.lt_of_lt_of_le hk he.size) (by omega) (by omega)⟩

section
variable {W : World} {px bb n l r : Nat} {bytes : List UInt8}
theorem Page.drewN (h : Page W px bb n l r bytes) (k : Nat) : Page (W.drewN k) px bb n l r bytes := ⟨h.box, h.row, h.len, h.ne⟩
theorem Page.ext (h : Page W px bb n l r bytes) {W' : World} (e : Ext W W') : Page W' px bb n l r bytes := ⟨e.blk _ _ h.box, e.blk _ _ h.row, h.len, h.ne⟩
theorem Page.drew (h : Page W px bb n l r bytes) : Page W.drew px bb n l r bytes := ⟨h.box, h.row, h.len, h.ne⟩
theorem Page.cells (h : Page W px bb n l r bytes) : W.cell? ⟨px, 0, none⟩ = some (.slice (some ⟨bb, 0, none⟩) n n) ∧ W.cell? ⟨px, 1, none⟩ = some (.int .i64 (l : Nat)) ∧ W.cell? ⟨px, 2, none⟩ = some (.int .i64 (r : Nat)) := by
  have hb : W.heap[px]? = _ := h.box
  simp [World.cell?, hb]
theorem Page.byte (h : Page W px bb n l r bytes) (i : Nat) (hi : i < n) : W.cell? ⟨bb, i, none⟩ = some (.int .u8 (byt bytes i : Nat)) := by
  have hb : W.heap[bb]? = _ := h.row
  have := h.len
  have hi' : i < bytes.length := by omega
  simp [World.cell?, hb, byteCells, hi', byt, List.getD]
theorem Page.soft (h : Page W px bb n l r bytes) (i : Nat) : W.frozen? ⟨bb, i, none⟩ = false ∧ W.frozen? ⟨px, i, none⟩ = false := by
  have hb : W.heap[bb]? = _ := h.row
  have hp : W.heap[px]? = _ := h.box
  simp [World.frozen?, hb, hp]
theorem Page.setByte (h : Page W px bb n l r bytes) (i x : Nat) (hx : x < 256) : Page (W.setCell ⟨bb, i, none⟩ (.int .u8 (x : Int))) px bb n l r (bytes.set i (UInt8.ofNat x)) := by
  refine ⟨?_, ?_, by simp [h.len], h.ne⟩
  · have := heap_setCell_other W ⟨bb, i, none⟩ px (.int .u8 (x : Int)) h.ne
    exact this.trans h.box
  · have := heap_setCell_same W bb i _ _ (.int .u8 (x : Int)) h.row
    unfold Blk; rw [this, setIf_bytes _ _ _ hx]
theorem Page.setLeft (h : Page W px bb n l r bytes) (k : Nat) : Page (W.setCell ⟨px, 1, none⟩ (.int .i64 (k : Int))) px bb n k r bytes := by
  refine ⟨?_, ?_, h.len, h.ne⟩
  · have := heap_setCell_same W px 1 _ _ (.int .i64 (k : Int)) h.box
    unfold Blk; rw [this]; rfl
  · have := heap_setCell_other W ⟨px, 1, none⟩ bb (.int .i64 (k : Int)) (Ne.symm h.ne)
    exact this.trans h.row
theorem Page.setRight (h : Page W px bb n l r bytes) (k : Nat) : Page (W.setCell ⟨px, 2, none⟩ (.int .i64 (k : Int))) px bb n l k bytes := by
  refine ⟨?_, ?_, h.len, h.ne⟩
  · have := heap_setCell_same W px 2 _ _ (.int .i64 (k : Int)) h.box
    unfold Blk; rw [this]; rfl
  · have := heap_setCell_other W ⟨px, 2, none⟩ bb (.int .i64 (k : Int)) (Ne.symm h.ne)
    exact this.trans h.row
end

set_option maxRecDepth 100000 in
theorem two_any (px bb n l r : Nat) (bytes : List UInt8) (a x : Nat) (ha : a + 1 < n) (hn : n ≤ 512) (hx : x ≤ 65535) (W : World) (h : Page W px bb n l r bytes) :
    Calls Tryz.prog 110 #[.pointer (some ⟨px, 0, none⟩), .int .i64 a, .int .i64 x] W fun e W' => e = .returned (.tuple #[]) ∧ Page W' px bb n l r ((bytes.set a (UInt8.ofNat x)).set (a + 1) (UInt8.ofNat (x / 256))) ∧ Only px bb W W' := by
  obtain ⟨c0, _, _⟩ := h.cells
  have c1 := h.byte a (by omega)
  have c2 := h.byte (a + 1) ha
  have f1 := (h.soft a).1
  have f2 := (h.soft (a + 1)).1
  have HP := Lib.hid h
  clear h
  have haI : (a : Int) < n := by omega
  have haI2 : (a : Int) + 1 < n := by omega
  go_enter Tryz.func110, Tryz.ntmps110
  go_wp2
  go_region
  go_wp2
  go_end0
  have p1 := (HP.out.setByte a (x % 256) (by omega)).setByte (a + 1) (x / 256) (by omega)
  rw [ofNat_mod] at p1
  simp only [Int.natCast_emod, Int.natCast_ediv, Int.cast_ofNat_Int] at p1
  exact ⟨rfl, p1.drew, (((Only.refl px bb W).set _ _ (.inr rfl)).set _ _ (.inr rfl)).drew⟩

theorem two_int (px bb n l r : Nat) (bytes : List UInt8) (a x : Int) (h0 : 0 ≤ a) (ha : a + 1 < n) (hn : n ≤ 512) (hx0 : 0 ≤ x) (hx : x ≤ 65535) (W : World) (h : Page W px bb n l r bytes) :
    Calls Tryz.prog 110 #[.pointer (some ⟨px, 0, none⟩), .int .i64 a, .int .i64 x] W fun e W' => e = .returned (.tuple #[]) ∧ Page W' px bb n l r ((bytes.set a.toNat (UInt8.ofNat x.toNat)).set (a.toNat + 1) (UInt8.ofNat (x.toNat / 256))) ∧ Only px bb W W' := by
  obtain ⟨a, rfl⟩ := Int.eq_ofNat_of_zero_le h0
  obtain ⟨x, rfl⟩ := Int.eq_ofNat_of_zero_le hx0
  rw [Int.toNat_natCast, Int.toNat_natCast]
  exact two_any px bb n l r bytes a x (by omega) hn (by omega) W h

/-- The bytes of a field laid at a place. -/
def layField (bytes : List UInt8) (a c x : Nat) : List UInt8 := ((bytes.set a (UInt8.ofNat c)).set (a + 1) (UInt8.ofNat x)).set (a + 2) (UInt8.ofNat (x / 256))

set_option maxRecDepth 100000 in
theorem field_pg (px bb n l r : Nat) (bytes : List UInt8) (c x : Nat) (hl : 3 ≤ l) (hln : l ≤ n) (hn : n ≤ 512) (hc : c < 256) (hx : x ≤ 65535) (W : World) (h : Page W px bb n l r bytes) :
    Calls Tryz.prog 71 #[.pointer (some ⟨px, 0, none⟩), .int .u8 c, .int .i64 x] W fun e W' => e = .returned (.tuple #[]) ∧ Page W' px bb n (l - 3) r (layField bytes (l - 3) c x) ∧ Only px bb W W' := by
  obtain ⟨l, rfl⟩ : ∃ k, l = k + 3 := ⟨l - 3, by omega⟩
  rw [Nat.add_sub_cancel]
  obtain ⟨c0, c1, c2⟩ := h.cells
  have c3 := h.byte l (by omega)
  have f1 := (h.soft l).1
  have f2 := (h.soft 1).2
  have hne := h.ne
  have hne' := Ne.symm h.ne
  have hlI : (l : Int) < n := by omega
  have e1 : ((l + 3 : Nat) : Int) - 3 = l := by omega
  have p1 := (h.setLeft l).setByte l c hc
  have HP1 := Lib.hid p1
  have Hl := Lib.hid h.len
  clear p1 h
  go_enter Tryz.func71, Tryz.ntmps71
  go_wp2
  go_region
  go_wp2_with (go_at_call 110; go_must (refine (two_int px bb n l r _ _ _ (by omega) (by omega) hn (by omega) (by omega) _ HP1.out.drew).mono ?_; rintro e W1 ⟨rfl, hp, ho⟩))
  go_end0
  refine ⟨rfl, ?_, ((((Only.refl px bb W).set _ _ (.inl rfl)).set _ _ (.inr rfl)).drew).trans ho⟩
  have e2 : ((l : Int) + 1).toNat = l + 1 := by omega
  rw [e2, Int.toNat_natCast] at hp
  exact hp

/-- The world with a row put anew. -/
def pasted (W : World) (g : Nat) (cs : Array Value) : World := W.setRow g cs
@[go_sem] theorem pasted_cell (W : World) (g p i : Nat) (cs : Array Value) (h : p ≠ g) : (pasted W g cs).cell? ⟨p, i, none⟩ = W.cell? ⟨p, i, none⟩ := World.cell?_of_block (setRow_other W g p cs h)
@[go_sem] theorem pasted_frozen (W : World) (g p i : Nat) (cs : Array Value) (h : p ≠ g) : (pasted W g cs).frozen? ⟨p, i, none⟩ = W.frozen? ⟨p, i, none⟩ := World.frozen?_of_block (setRow_other W g p cs h)
theorem pasted_page {W : World} {px bb n l r : Nat} {bytes new : List UInt8} (h : Page W px bb n l r bytes) (hn : new.length = n) : Page (pasted W bb (byteCells new)) px bb n l r new :=
  ⟨(setRow_other W bb px _ h.ne).trans h.box, setRow_heap W bb _ _ _ _ h.row, hn, h.ne⟩
theorem pasted_only (px bb : Nat) (W : World) (cs : Array Value) : Only px bb W (pasted W bb cs) := ⟨rfl, rfl, rfl, by simp [pasted, World.setRow], fun k _ _ h2 => setRow_other W bb k cs h2⟩
/-- Bytes laid over others from a place on. -/
def layOver (bytes : List UInt8) (r : Nat) (s : List UInt8) : List UInt8 := bytes.take r ++ s ++ bytes.drop (r + s.length)
theorem length_layOver (bytes : List UInt8) (r : Nat) (s : List UInt8) (h : r + s.length ≤ bytes.length) : (layOver bytes r s).length = bytes.length := by simp [layOver]; omega

set_option maxRecDepth 100000 in
theorem put_pg (px bb n l r : Nat) (bytes s : List UInt8) (hr : r + s.length ≤ n) (hrn : r < n) (hn : n ≤ 512) (W : World) (h : Page W px bb n l r bytes) :
    Calls Tryz.prog 72 #[.pointer (some ⟨px, 0, none⟩), .string ⟨s.toArray⟩] W fun e W' => e = .returned (.tuple #[]) ∧ Page W' px bb n l (r + s.length) (layOver bytes r s) ∧ Only px bb W W' := by
  obtain ⟨c0, c1, c2⟩ := h.cells
  have f1 := (h.soft 2).2
  have hne := h.ne
  have hne' := Ne.symm h.ne
  have hblk := h.row
  have hsz : (Tryz.prog.info? 5).map (·.size) = some 1 := by kernel_rfl
  have hcopy : ∀ W' : World, Blk W' bb (.cells (byteCells bytes) 5) → (Builtin.copy_ #[86, 9] 3 #[.slice (some ⟨bb, r, none⟩) (n - r) (n - r), .string ⟨s.toArray⟩]).run Tryz.prog W' = .ok (goInt s.length) (pasted W' bb (byteCells (layOver bytes r s))) := fun W' hW' => by
    have := Lib.run_copy_row_string (P := Tryz.prog) W' 86 9 3 5 bb r (n - r) (n - r) ⟨s.toArray⟩ (byteCells bytes) 5 Tryz.underlying86 hsz hW' (by simp [ByteArray.size]; omega) (by have := h.len; simp [ByteArray.size, byteCells]; omega)
    rw [this]
    have e : (byteCells bytes).toList.take r ++ Lib.byteCells s ++ (byteCells bytes).toList.drop (r + s.length) = (byteCells (layOver bytes r s)).toList := by
      simp [byteCells, layOver, Lib.byteCells, List.map_take, List.map_drop]
    have e2 : (ByteArray.mk s.toArray).size = s.length := by simp [ByteArray.size]
    simp only [e2]
    rw [e]; rfl
  have HP : Hid (∀ W' : World, Page W' px bb n l r bytes → Page (pasted W' bb (byteCells (layOver bytes r s))) px bb n l r (layOver bytes r s)) := Lib.hid fun W' h' => pasted_page h' ((length_layOver bytes r s (by have := h'.len; omega)).trans h'.len)
  have HW := Lib.hid h
  have hrI : (r : Int) < n := by omega
  have hrI2 : (r : Int) ≤ n := by omega
  generalize byteCells (layOver bytes r s) = cs at *
  clear h hsz
  go_enter Tryz.func72, Tryz.ntmps72
  go_wp2
  go_region
  go_wp2
  go_end0
  have p2 := (HP.out W.drew HW.out.drew).setRight (r + s.length)
  simp only [Int.natCast_add] at p2
  exact ⟨rfl, p2, (((Only.refl px bb W).drew).trans (pasted_only px bb _ _)).set _ _ (.inl rfl)⟩

/-- The last four bytes. -/
def layTail (bytes : List UInt8) (n r g : Nat) : List UInt8 :=
  (((bytes.set (n - 4) (UInt8.ofNat r)).set (n - 4 + 1) (UInt8.ofNat (r / 256))).set (n - 2) (UInt8.ofNat g)).set (n - 2 + 1) (UInt8.ofNat (g / 256))

set_option maxRecDepth 100000 in
theorem done_pg (px bb n l r : Nat) (bytes : List UInt8) (hr : r ≤ l) (hl : l ≤ n) (h4 : 4 ≤ n) (hn : n ≤ 512) (W : World) (h : Page W px bb n l r bytes) :
    Calls Tryz.prog 73 #[.pointer (some ⟨px, 0, none⟩)] W fun e W' => e = .returned (.string ⟨(layTail bytes n r (l - r)).toArray⟩) ∧ Only px bb W W' := by
  obtain ⟨g, rfl⟩ : ∃ g, l = r + g := ⟨l - r, by omega⟩
  rw [Nat.add_sub_cancel_left]
  obtain ⟨c0, c1, c2⟩ := h.cells
  have HW := Lib.hid h
  clear h
  have e1 : ((r + g : Nat) : Int) - r = g := by omega
  have i1 : IntKind.i64.wrap ((n : Int) - 4) = n - 4 := IntWalk.i64_in _ (by omega)
  have i2 : IntKind.i64.wrap ((n : Int) - 2) = n - 2 := IntWalk.i64_in _ (by omega)
  have i3 : IntKind.i64.wrap ((r : Int) + g - r) = g := by rw [IntWalk.i64_in _ (by omega)]; omega
  have hpx := HW.out.box.lt
  go_enter Tryz.func73, Tryz.ntmps73
  go_wp2
  refine wp_region_mk 11 (Ext.refl W) (by kernel_rfl) (by kernel_rfl) (by kernel_rfl) ?_
  simp only [List.take_succ_cons, List.take_zero, List.take_nil, List.drop_succ_cons, List.drop_zero, List.drop_nil, List.map_cons, List.map_nil]
  repeat (first
    | (refine wpML_move _ _ rfl (by first | exact .inl rfl | exact .inr rfl) rfl (by first | exact Is.stable _ | exact Fresh.stable _ _ _) ?_
       simp only [setL, List.set_cons_succ, List.set_cons_zero, List.getD_cons_succ, List.getD_cons_zero])
    | (refine wpML_moveC _ rfl (by first | exact .inl rfl | exact .inr rfl) ?_
       simp only [setL, List.set_cons_succ, List.set_cons_zero])
    | (apply wpML_det rfl
       · intro a w' he hr K hK
         simp [Reads, Oper.looksAt, Op.operands, Call.operands, factAt, Is] at hr
         have hx := he.cell
         go_simp
         try go_bits
         try (rw [if_neg (by omega)]; go_simp)
         first
           | exact hK _ (Ext.refl _)
       simp only [setL, List.set_cons_succ, List.set_cons_zero])
    | (apply wpML_det rfl
       · intro a w' he hr K hK
         simp [Reads, Oper.looksAt, Op.operands, Call.operands, factAt, Fresh] at hr
         obtain ⟨b, hr1, hr2⟩ := hr
         go_simp
         exact hK _ (Ext.refl _)
       simp only [setL, List.set_cons_succ, List.set_cons_zero]))
  intro w2 he2
  repeat (first | with_reducible refine rest_is _ _ _ _ ?_ | (with_reducible refine rest_fact _ _ _ _ ?_; intro _ _) | with_reducible refine rest_end _ _ ?_)
  simp only [List.reverse_cons, List.reverse_nil, List.nil_append, List.cons_append]
  go_wp2_with (go_at_call 110; go_must (refine (two_int px bb n (r + g) r _ _ _ (by omega) (by omega) hn (by omega) (by omega) _ (HW.out.ext he2)).mono ?_; rintro e W1 ⟨rfl, hp1, ho1⟩))
  have hO1 := (Only.of_ext he2).trans ho1
  have e4 : ((n : Int) - 4).toNat = n - 4 := by omega
  rw [e4, Int.toNat_natCast] at hp1
  obtain ⟨d0, d1, d2⟩ := hp1.cells
  have HP1 := Lib.hid hp1
  have hpx1 := HP1.out.box.lt
  have w4 : ((r : Int) + g - r) = g := by omega
  have HO := Lib.hid hO1
  clear hp1 c0 c1 c2 e1 i1 he2 ho1 hO1 hpx
  refine wp_region_mk 16 (Ext.refl W1) (by kernel_rfl) (by kernel_rfl) (by kernel_rfl) ?_
  simp only [List.take_succ_cons, List.take_zero, List.take_nil, List.drop_succ_cons, List.drop_zero, List.drop_nil, List.map_cons, List.map_nil]
  repeat (first
    | (refine wpML_move _ _ rfl (by first | exact .inl rfl | exact .inr rfl) rfl (by first | exact Is.stable _ | exact Fresh.stable _ _ _) ?_
       simp only [setL, List.set_cons_succ, List.set_cons_zero, List.getD_cons_succ, List.getD_cons_zero])
    | (refine wpML_moveC _ rfl (by first | exact .inl rfl | exact .inr rfl) ?_
       simp only [setL, List.set_cons_succ, List.set_cons_zero])
    | (apply wpML_det rfl
       · intro a w' he hr K hK
         simp [Reads, Oper.looksAt, Op.operands, Call.operands, factAt, Is] at hr
         have hx := he.cell
         go_simp
         try go_bits
         try (rw [if_neg (by omega)]; go_simp)
         first
           | exact hK _ (Ext.refl _)
       simp only [setL, List.set_cons_succ, List.set_cons_zero])
    | (apply wpML_det rfl
       · intro a w' he hr K hK
         simp [Reads, Oper.looksAt, Op.operands, Call.operands, factAt, Fresh] at hr
         obtain ⟨b, hr1, hr2⟩ := hr
         go_simp
         exact hK _ (Ext.refl _)
       simp only [setL, List.set_cons_succ, List.set_cons_zero]))
  intro w2 he2
  repeat (first | with_reducible refine rest_is _ _ _ _ ?_ | (with_reducible refine rest_fact _ _ _ _ ?_; intro _ _) | with_reducible refine rest_end _ _ ?_)
  simp only [List.reverse_cons, List.reverse_nil, List.nil_append, List.cons_append]
  go_wp2_with fail
  refine (two_int px bb n (r + g) r _ _ _ (by omega) (by omega) hn (by omega) (by omega) _ (HP1.out.ext he2)).mono ?_
  rintro e W2 ⟨rfl, hp2, ho2⟩
  have e2 : ((n : Int) - 2).toNat = n - 2 := by omega
  rw [e2, Int.toNat_natCast] at hp2
  obtain ⟨g0, g1, g2⟩ := hp2.cells
  have hb2 := hp2.row
  have hl2 := hp2.len
  have hcv : (convert 86 9 (.slice (some ⟨bb, 0, none⟩) n n)).run Tryz.prog W2 = .ok (.string ⟨(layTail bytes n r g).toArray⟩) W2 :=
    run_row_string W2 _ _ 5 bb n n _ 5 (0, 0) Tryz.underlying86 Tryz.underlying5 Tryz.underlying9 hb2 hl2
  have HO2 := Lib.hid ((HO.out.trans (Only.of_ext he2)).trans ho2)
  clear hp2 d0 d1 d2 hb2 hl2 e2 i2 i3 w4 ho2 he2
  go_wp2
  go_ret
  exact ⟨rfl, HO2.out⟩
end Go.Proofs.YtpefkjhiaflonaaGreat
