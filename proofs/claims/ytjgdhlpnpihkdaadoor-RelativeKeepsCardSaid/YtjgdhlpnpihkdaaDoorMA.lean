/- A map from int to string that the call makes, told as a function from keys to what stands there. Over any program. -/
import Derived.Test.YtjgdhlpnpihkdaaDoorXF
import Derived.Maps.StringElems
set_option linter.unusedSimpArgs false
set_option linter.unusedVariables false
namespace Dsd
open Go Go.RowKit

/-- The types of a map from int to string. -/
structure MapTy (P : Program) (t k e : TypeId) : Prop where
  key : P.underlying k = some (.int .i64)
  map : P.underlying t = some (.map k e)
  elem : P.underlying e = some .string
  zero : ∀ w, (zeroValue e).run P w = .ok (.string ⟨#[]⟩) w
abbrev Wnt := Int → Option (List UInt8)
def updW (g : Wnt) (x : Int) (v : Option (List UInt8)) : Wnt := fun y => if y = x then v else g y
theorem updW_twice (g : Wnt) (x : Int) (v v' : Option (List UInt8)) : updW (updW g x v) x v' = updW g x v' := by
  funext y; unfold updW; split <;> simp_all
theorem updW_at (g : Wnt) (x : Int) (v : Option (List UInt8)) : updW g x v x = v := by simp [updW]
structure Shows (D : DataW Unit) (g : Wnt) (sz : Nat) : Prop where
  tidy : Maps.Tidy D
  has : ∀ x, Maps.has D (.int .i64 x) = (g x).isSome
  atk : ∀ x, D.atKey (.int .i64 x) (.lit (.string [])) = .lit (.string ((g x).getD []))
  size : Maps.size D = sz
theorem key_int (x : Int) : WideAt.IsKeyLit (Lit.int .i64 x) := by trivial
theorem key_ne {x y : Int} (h : y ≠ x) : Lit.int .i64 y ≠ Lit.int .i64 x := fun e => h (by injection e)
theorem Shows.made : Shows (.map []) (fun _ => none) 0 := ⟨Maps.tidy_empty, fun _ => rfl, fun _ => rfl, rfl⟩
theorem Shows.put {D : DataW Unit} {g : Wnt} {sz : Nat} (h : Shows D g sz) (x : Int) (r : List UInt8) : Shows (D.put (.int .i64 x) (.lit (.string r))) (updW g x (some r)) (if (g x).isSome then sz else sz + 1) := by
  refine ⟨h.tidy.put (key_int x) _, fun y => ?_, fun y => ?_, ?_⟩
  · by_cases hy : y = x
    · subst hy; rw [Maps.has_put_same h.tidy.isMap (key_int _), updW_at]; rfl
    · rw [Maps.has_put_other (key_ne hy), h.has]; simp [updW, hy]
  · by_cases hy : y = x
    · subst hy; rw [Maps.atKey_put_same h.tidy.isMap (key_int _), updW_at]; rfl
    · rw [Maps.atKey_put_other (key_ne hy), h.atk]; simp [updW, hy]
  · rw [Maps.size_put h.tidy, h.has, h.size]
theorem Shows.del {D : DataW Unit} {g : Wnt} {sz : Nat} (h : Shows D g sz) (x : Int) : Shows (D.del (.int .i64 x)) (updW g x none) (sz - if (g x).isSome then 1 else 0) := by
  refine ⟨h.tidy.del _, fun y => ?_, fun y => ?_, ?_⟩
  · by_cases hy : y = x
    · subst hy; rw [Maps.has_del_same, updW_at]; rfl
    · rw [Maps.has_del_other (key_ne hy), h.has]; simp [updW, hy]
  · by_cases hy : y = x
    · subst hy; rw [Maps.atKey_del_same, updW_at]; rfl
    · rw [Maps.atKey_del_other (key_ne hy), h.atk]; simp [updW, hy]
  · have := Maps.size_del (k := .int .i64 x) h.tidy
    rw [h.has, h.size] at this
    omega
/-- Block mb of w is a map of at most n entries, which holds what g tells: sz entries. -/
def WantAt (P : Program) (k e : TypeId) (w : World) (mb n : Nat) (g : Wnt) (sz : Nat) : Prop := ∃ D : DataW Unit, w.ownsMap P k (plainElem P e) mb n D ∧ Shows D g sz
section
variable {P : Program} {t k e : TypeId} {w w' : World} {mb n : Nat} {g : Wnt} {sz : Nat}
theorem WantAt.made (w : World) (P : Program) (k e : TypeId) : WantAt P k e (w.alloc (.map #[] 0)) w.heap.size 0 (fun _ => none) 0 := ⟨_, World.ownsMap_made w P k _, Shows.made⟩
theorem WantAt.lt (h : WantAt P k e w mb n g sz) : mb < w.heap.size := by obtain ⟨D, h, _⟩ := h; exact h.lt
theorem WantAt.heap (h : WantAt P k e w mb n g sz) (hh : w'.heap[mb]? = w.heap[mb]?) : WantAt P k e w' mb n g sz := by
  obtain ⟨D, ⟨es, clock, hb, r⟩, hs⟩ := h
  exact ⟨D, ⟨es, clock, hh.trans hb, r⟩, hs⟩
theorem WantAt.ext (h : WantAt P k e w mb n g sz) (c : Ext w w') : WantAt P k e w' mb n g sz := h.heap (c.block mb h.lt)
theorem WantAt.chg {b : Nat} (h : WantAt P k e w mb n g sz) (c : Chg b w w') (hne : mb ≠ b) : WantAt P k e w' mb n g sz := h.heap (c.block mb hne)
theorem WantAt.mono (h : WantAt P k e w mb n g sz) {n' : Nat} (hn : n ≤ n') : WantAt P k e w mb n' g sz := by obtain ⟨D, h, hs⟩ := h; exact ⟨D, h.mono hn, hs⟩
theorem WantAt.as (h : WantAt P k e w mb n g sz) {g' : Wnt} {sz' : Nat} (hg : g = g') (hs : sz = sz') : WantAt P k e w mb n g' sz' := by subst hg; subst hs; exact h
theorem WantAt.not_cells (h : WantAt P k e w mb n g sz) {b : Nat} {cs : Array Value} {u : TypeId} (hb : Blk w b (.cells cs u)) : mb ≠ b := by
  obtain ⟨D, ⟨es, clock, hm, _⟩, _⟩ := h
  rintro rfl
  have := hm.symm.trans hb
  simp at this
theorem chg_of_turned (h : w.mapTurned w' mb) : Chg mb w w' := by
  obtain ⟨es, clock, es', clock', hb, rfl⟩ := h
  exact ⟨rfl, rfl, rfl, by simp [Go.ChangeMaps.setBlock], fun i hi => Go.ChangeMaps.heap_setBlock_other hb _ hi⟩
end
section
variable {P : Program} {t k e : TypeId} {w : World} {mb n : Nat} {g : Wnt} {sz : Nat} {ops : Array Oper} {rest : List Oper} {o : Oper} {a : Act} {Q : Exit → Act → World → Prop}
theorem want_val (T : MapTy P t k e) {D : DataW Unit} (hs : Shows D g sz) {y : Int} {v : Value} {ps : List MemPlace} (hv : plainElem P e v = some (D.atKey (.int .i64 y) (.lit (.string [])), ps)) : v = .string ⟨((g y).getD []).toArray⟩ := by
  obtain ⟨s, rfl, hz, _⟩ := plainElem_string_inv T.elem hv
  simp only [Prod.mk.injEq] at hz
  have h1 := hz.1
  rw [hs.atk] at h1
  simp only [DataW.lit.injEq, Lit.string.injEq] at h1
  rw [h1]
theorem zero_reads (T : MapTy P t k e) : plainElem (H := Unit) P e (.string ⟨#[]⟩) = some (.lit (.string []), []) := plainElem_string T.elem (s := ⟨#[]⟩) (by decide)
/-- v, ok := m[x] -/
theorem wpList_want_ok (T : MapTy P t k e) (hg : o.guard = none) (m x : Operand) (hop : o.op = Op.lookup t m x true) (hm : a.eval m = .map (some mb)) (h : WantAt P k e w mb n g sz) (y : Int) (hx : a.eval x = .int .i64 y) (hy : (Lit.int .i64 y).wf = true)
    (hK : wpList P ops Q rest (a.put o.dst (.tuple #[.string ⟨((g y).getD []).toArray⟩, .bool (g y).isSome])) w) : wpList P ops Q (o :: rest) a w := by
  obtain ⟨D, hown, hs⟩ := h
  refine wpList_lookup_own_ok w hg m x t hop k e (Maps.int_keyed T.key) T.map (plainElem P e) (T.zero w) (.lit (.string [])) [] (zero_reads T) mb n D hm hown _ _ hx (Maps.keyOf_int_mk T.key hy) fun v ps hv => ?_
  rw [want_val T hs hv, hs.has]
  exact hK
theorem wpList_want_oks (T : MapTy P t k e) (hg : o.guard = none) (m x : Operand) (hop : o.op = Op.lookup t m x true) (hm : a.eval m = .map (some mb)) (h : WantAt P k e w mb n g sz) (y : Int) (hx : a.eval x = .int .i64 y) (hy : (Lit.int .i64 y).wf = true) (v : List UInt8) (th : Bool) (hv : (g y).getD [] = v) (ht : (g y).isSome = th)
    (hK : wpList P ops Q rest (a.put o.dst (.tuple #[.string ⟨v.toArray⟩, .bool th])) w) : wpList P ops Q (o :: rest) a w :=
  wpList_want_ok T hg m x hop hm h y hx hy (by rw [hv, ht]; exact hK)
/-- m[x] -/
theorem wpList_want_get (T : MapTy P t k e) (hg : o.guard = none) (m x : Operand) (hop : o.op = Op.lookup t m x false) (hm : a.eval m = .map (some mb)) (h : WantAt P k e w mb n g sz) (y : Int) (hx : a.eval x = .int .i64 y) (hy : (Lit.int .i64 y).wf = true)
    (hK : wpList P ops Q rest (a.put o.dst (.string ⟨((g y).getD []).toArray⟩)) w) : wpList P ops Q (o :: rest) a w := by
  obtain ⟨D, hown, hs⟩ := h
  obtain ⟨v, ps, hrun, hv⟩ := hown.lookup (Maps.int_keyed T.key) T.map (T.zero w) (zero_reads T) (Maps.keyOf_int_mk T.key hy)
  rw [want_val T hs hv] at hrun
  refine wpList_plain hg fun K' hK' => ?_
  unfold Oper.wp
  simp [execOp, hop, hm, hx, hrun, Result.andThen]
  exact hK' _ _ hK
/-- m[x] = r -/
theorem wpList_want_put (T : MapTy P t k e) (hg : o.guard = none) (m x v : Operand) (hop : o.op = Op.mapUpdate t m x v) (hm : a.eval m = .map (some mb)) (h : WantAt P k e w mb n g sz) (hn : n < maxLen) (y : Int) (hx : a.eval x = .int .i64 y) (hy : (Lit.int .i64 y).wf = true) (r : List UInt8) (hv : a.eval v = .string ⟨r.toArray⟩) (hr : r.length ≤ maxLen)
    (hK : ∀ w', WantAt P k e w' mb (n + 1) (updW g y (some r)) (if (g y).isSome then sz else sz + 1) → Chg mb w w' → wpList P ops Q rest (a.put o.dst undef) w') : wpList P ops Q (o :: rest) a w := by
  obtain ⟨D, hown, hs⟩ := h
  refine wpList_mapUpdate_in w hg m x v t hop k e (Maps.int_keyed T.key) T.map (plainElem P e) mb n D hm hown hn _ _ _ hx hv (Maps.keyOf_int_mk T.key hy) (.lit (.string r)) [] (by have := plainElem_string (H := Unit) T.elem (s := ⟨r.toArray⟩) hr; simpa using this) fun w' h1 h2 => ?_
  exact hK w' ⟨_, h1, hs.put y r⟩ (chg_of_turned h2)
/-- delete(m, x) -/
theorem wpList_want_del (T : MapTy P t k e) (hg : o.guard = none) (m x : Operand) (hop : o.op = Op.call { callee := Callee.builtin Builtin.delete, args := #[m, x], argTypes := #[t, k] }) (hm : a.eval m = .map (some mb)) (h : WantAt P k e w mb n g sz) (y : Int) (hx : a.eval x = .int .i64 y) (hy : (Lit.int .i64 y).wf = true)
    (hK : ∀ w', WantAt P k e w' mb n (updW g y none) (sz - if (g y).isSome then 1 else 0) → Chg mb w w' → wpList P ops Q rest (a.put o.dst (.tuple #[])) w') : wpList P ops Q (o :: rest) a w := by
  obtain ⟨D, hown, hs⟩ := h
  refine wpList_delete_own w hg m x t k hop e (Maps.int_keyed T.key) T.map (plainElem P e) mb n D hm hown _ _ hx (Maps.keyOf_int_mk T.key hy) fun w' h1 h2 => ?_
  exact hK w' ⟨_, h1, hs.del y⟩ (chg_of_turned h2)
/-- len(m) -/
theorem wpList_want_len (T : MapTy P t k e) (hg : o.guard = none) (m : Operand) (hop : o.op = Op.call { callee := Callee.builtin Builtin.len, args := #[m], argTypes := #[t] }) (hm : a.eval m = .map (some mb)) (h : WantAt P k e w mb n g sz)
    (hK : wpList P ops Q rest (a.put o.dst (.int .i64 sz)) w) : wpList P ops Q (o :: rest) a w := by
  obtain ⟨D, hown, hs⟩ := h
  refine wpList_len_own w hg m t hop k e T.map (plainElem P e) mb n D hm hown ?_
  rw [hs.size]; exact hK
end
/-- A range over the map is under way: block r is its iterator; left: which keys are still to come. -/
def WantIter (P : Program) (k e : TypeId) (w : World) (mb r n : Nat) (g : Wnt) (left : Int → Bool) (cnt : Nat) : Prop := ∃ (D : DataW Unit) (lf : Lit → Bool) (sz : Nat), w.ranges P k (plainElem P e) mb r n D lf cnt ∧ Shows D g sz ∧ ∀ x, lf (.int .i64 x) = left x
section
variable {P : Program} {t k e : TypeId} {w w' : World} {mb r n : Nat} {g : Wnt} {left : Int → Bool} {cnt : Nat}
theorem WantIter.left_eq (h : WantIter P k e w mb r n g left cnt) : w.rangeLeft mb r = cnt := by obtain ⟨D, lf, sz, h, _⟩ := h; exact h.left_eq
theorem WantIter.lt (h : WantIter P k e w mb r n g left cnt) : r < w.heap.size := by obtain ⟨D, lf, sz, h, _⟩ := h; exact h.lt
theorem WantIter.lt' (h : WantIter P k e w mb r n g left cnt) : mb < w.heap.size := by obtain ⟨D, lf, sz, h, _⟩ := h; exact h.owns.lt
theorem WantIter.heap (h : WantIter P k e w mb r n g left cnt) (h1 : w'.heap[mb]? = w.heap[mb]?) (h2 : w'.heap[r]? = w.heap[r]?) : WantIter P k e w' mb r n g left cnt := by
  obtain ⟨D, lf, sz, ⟨es, clock, since, seen, c0, hb, F, hs, hD, hr, rest⟩, hS, hl⟩ := h
  exact ⟨D, lf, sz, ⟨es, clock, since, seen, c0, h1.trans hb, F, hs, hD, h2.trans hr, rest⟩, hS, hl⟩
theorem WantIter.ext (h : WantIter P k e w mb r n g left cnt) (c : Ext w w') : WantIter P k e w' mb r n g left cnt := h.heap (c.block mb h.lt') (c.block r h.lt)
theorem WantIter.at (h : WantIter P k e w mb r n g left cnt) : ∃ sz, WantAt P k e w mb n g sz := by obtain ⟨D, lf, sz, h, hs, _⟩ := h; exact ⟨sz, D, h.owns, hs⟩
end
section
variable {P : Program} {t k e : TypeId} {w : World} {mb n : Nat} {g : Wnt} {sz : Nat} {ops : Array Oper} {rest : List Oper} {o : Oper} {a : Act} {Q : Exit → Act → World → Prop}
theorem wpList_want_range (T : MapTy P t k e) (hg : o.guard = none) (m : Operand) (hop : o.op = Op.range t m) (hm : a.eval m = .map (some mb)) (h : WantAt P k e w mb n g sz)
    (hK : ∀ w', WantIter P k e w' mb w.heap.size n g (fun x => (g x).isSome) sz → Ext w w' → w'.heap.size = w.heap.size + 1 → wpList P ops Q rest (a.put o.dst (.pointer (some ⟨w.heap.size, 0, none⟩))) w') : wpList P ops Q (o :: rest) a w := by
  obtain ⟨D, hown, hs⟩ := h
  refine wpList_range_own w hg m t hop k e (Maps.int_keyed T.key) T.map (plainElem P e) mb n D hm hown fun w' h1 h2 h3 => ?_
  refine hK w' ⟨D, _, sz, by rw [← hs.size]; exact h1, hs, hs.has⟩ (Ext.trans' (Ext.refl w) ⟨h2.os, h2.tape, h2.output, h2.size, fun i hi => h2.block i hi (by simp)⟩) h3
theorem wpList_want_next (T : MapTy P t k e) {r : Nat} {left : Int → Bool} {cnt : Nat} (hg : o.guard = none) (it : Operand) (hop : o.op = Op.next it false) (hit : a.eval it = .pointer (some ⟨r, 0, none⟩)) (h : WantIter P k e w mb r n g left cnt)
    (hDone : (∀ x, left x = false) → wpList P ops Q rest (a.put o.dst (.tuple #[.bool false])) w)
    (hMore : ∀ (x : Int) (c : List UInt8) (w' : World) (cnt' : Nat), (Lit.int .i64 x).wf = true → left x = true → g x = some c → WantIter P k e w' mb r n g (fun y => left y && !decide (y = x)) cnt' → cnt' < cnt → Chg r w w' →
      (Instr.entry (.pointer (some ⟨r, 0, none⟩))).run P w' = .ok (.tuple #[.int .i64 x, .string ⟨c.toArray⟩]) w' → wpList P ops Q rest (a.put o.dst (.tuple #[.bool true, .int .i64 x, .string ⟨c.toArray⟩])) w') : wpList P ops Q (o :: rest) a w := by
  obtain ⟨D, lf, sz, hrg, hs, hl⟩ := h
  refine wpList_next_ranges_is w hg it hop k e .i64 (Maps.int_keyed T.key) T.key T.elem mb r n D lf cnt hit hrg (fun _ h0 => hDone fun x => by rw [← hl]; exact h0 _) fun x c w' cnt' hwx hwc hlx hat hrg1 hlt hg1 hs1 hen => ?_
  have hh := Maps.has_true_of_atKey hat
  rw [hs.has] at hh
  have h2 := hat (.lit (.string []))
  rw [hs.atk] at h2
  simp only [DataW.lit.injEq, Lit.string.injEq] at h2
  obtain ⟨v, hv⟩ := Option.isSome_iff_exists.1 hh
  rw [hv] at h2
  simp only [Option.getD_some] at h2
  have ec : c = ⟨v.toArray⟩ := by rw [h2]
  rw [ec] at hen ⊢
  refine hMore x v w' cnt' hwx (by rw [← hl]; exact hlx) hv ⟨D, _, sz, hrg1, hs, fun y => ?_⟩ hlt ⟨hg1.os, hg1.tape, hg1.output, hs1, fun i hi => ?_⟩ hen
  · rw [hl]
    congr 1
    by_cases hy : y = x
    · subst hy; rw [WideAt.sameKey_self (key_int _)]; simp
    · rw [Maps.sameKey_ne (key_ne hy)]; simp [hy]
  · by_cases hil : i < w.heap.size
    · exact hg1.block i hil (by simpa using hi)
    · rw [Array.getElem?_eq_none (by omega), Array.getElem?_eq_none (by omega)]
end
end Dsd
