/- A part of the proof. -/
import Derived.Test.YtifmbcjbccedfaaGreatDoorXF
import Derived.Maps.StringElems
set_option linter.unusedSimpArgs false
set_option linter.unusedVariables false
namespace Dsd
open Go Go.RowKit
structure MapG (P : Program) (t k e : TypeId) (κ ε : Type) where
 kl : κ → Lit
 kv : κ → Value
 okk : κ → Prop
 el : ε → Lit
 ev : ε → Value
 oke : ε → Prop
 ez : ε
 inj : ∀ x y, kl x = kl y → x = y
 isKey : ∀ x, WideAt.IsKeyLit (kl x)
 keyed : Maps.Keyed P k
 keyOf : ∀ x, okk x → Go.keyOf P k (kv x) = some (kl x)
 map : P.underlying t = some (.map k e)
 zero : ∀ w, (zeroValue e).run P w = .ok (ev ez) w
 enc : ∀ x, oke x → plainElem (H := Unit) P e (ev x) = some (.lit (el x), [])
 okz : oke ez
 dec : ∀ v z, plainElem (H := Unit) P e v = some z → ∃ x, v = ev x ∧ z = (.lit (el x), [])
 elinj : ∀ x y, el x = el y → x = y
def updG {κ ε : Type} [DecidableEq κ] (g : κ → Option ε) (x : κ) (v : Option ε) : κ → Option ε := fun y => if y = x then v else g y
section
variable {P : Program} {t k e : TypeId} {κ ε : Type} (M : MapG P t k e κ ε)
theorem updG_at [DecidableEq κ] (g : κ → Option ε) (x : κ) (v : Option ε) : updG g x v x = v := by simp [updG]
structure ShowsG (D : DataW Unit) (g : κ → Option ε) (sz : Nat) : Prop where
 tidy : Maps.Tidy D
 has : ∀ x, Maps.has D (M.kl x) = (g x).isSome
 atk : ∀ x, D.atKey (M.kl x) (.lit (M.el M.ez)) = .lit (M.el ((g x).getD M.ez))
 size : Maps.size D = sz
theorem MapG.ne {x y : κ} (h : y ≠ x) : M.kl y ≠ M.kl x := fun e => h (M.inj _ _ e)
theorem ShowsG.made : ShowsG M (.map []) (fun _ => none) 0 := ⟨Maps.tidy_empty, fun _ => rfl, fun _ => rfl, rfl⟩
theorem ShowsG.put [DecidableEq κ] {D : DataW Unit} {g : κ → Option ε} {sz : Nat} (h : ShowsG M D g sz) (x : κ) (r : ε) : ShowsG M (D.put (M.kl x) (.lit (M.el r))) (updG g x (some r)) (if (g x).isSome then sz else sz + 1) := by
 refine ⟨h.tidy.put (M.isKey x) _, fun y => ?_, fun y => ?_, ?_⟩
 · by_cases hy : y = x
   · subst hy; rw [Maps.has_put_same h.tidy.isMap (M.isKey _), updG_at]; rfl
   · rw [Maps.has_put_other (M.ne hy), h.has]; simp [updG, hy]
 · by_cases hy : y = x
   · subst hy; rw [Maps.atKey_put_same h.tidy.isMap (M.isKey _), updG_at]; rfl
   · rw [Maps.atKey_put_other (M.ne hy), h.atk]; simp [updG, hy]
 · rw [Maps.size_put h.tidy, h.has, h.size]
theorem ShowsG.del [DecidableEq κ] {D : DataW Unit} {g : κ → Option ε} {sz : Nat} (h : ShowsG M D g sz) (x : κ) : ShowsG M (D.del (M.kl x)) (updG g x none) (sz - if (g x).isSome then 1 else 0) := by
 refine ⟨h.tidy.del _, fun y => ?_, fun y => ?_, ?_⟩
 · by_cases hy : y = x
   · subst hy; rw [Maps.has_del_same, updG_at]; rfl
   · rw [Maps.has_del_other (M.ne hy), h.has]; simp [updG, hy]
 · by_cases hy : y = x
   · subst hy; rw [Maps.atKey_del_same, updG_at]; rfl
   · rw [Maps.atKey_del_other (M.ne hy), h.atk]; simp [updG, hy]
 · have := Maps.size_del (k := M.kl x) h.tidy
   rw [h.has, h.size] at this
   omega
def MapAt (w : World) (mb n : Nat) (g : κ → Option ε) (sz : Nat) : Prop := ∃ D : DataW Unit, w.ownsMap P k (plainElem P e) mb n D ∧ ShowsG M D g sz
variable {w w' : World} {mb n : Nat} {g : κ → Option ε} {sz : Nat}
theorem MapAt.made (w : World) : MapAt M (w.alloc (.map #[] 0)) w.heap.size 0 (fun _ => none) 0 := ⟨_, World.ownsMap_made w P k _, ShowsG.made M⟩
variable {M}
theorem MapAt.lt (h : MapAt M w mb n g sz) : mb < w.heap.size := by obtain ⟨D, h, _⟩ := h; exact h.lt
theorem MapAt.heap (h : MapAt M w mb n g sz) (hh : w'.heap[mb]? = w.heap[mb]?) : MapAt M w' mb n g sz := by
 obtain ⟨D, ⟨es, clock, hb, r⟩, hs⟩ := h
 exact ⟨D, ⟨es, clock, hh.trans hb, r⟩, hs⟩
theorem MapAt.ext (h : MapAt M w mb n g sz) (c : Ext w w') : MapAt M w' mb n g sz := h.heap (c.block mb h.lt)
theorem MapAt.chg {b : Nat} (h : MapAt M w mb n g sz) (c : Chg b w w') (hne : mb ≠ b) : MapAt M w' mb n g sz := h.heap (c.block mb hne)
theorem MapAt.mono (h : MapAt M w mb n g sz) {n' : Nat} (hn : n ≤ n') : MapAt M w mb n' g sz := by obtain ⟨D, h, hs⟩ := h; exact ⟨D, h.mono hn, hs⟩
theorem MapAt.as (h : MapAt M w mb n g sz) {g' : κ → Option ε} {sz' : Nat} (hg : g = g') (hs : sz = sz') : MapAt M w mb n g' sz' := by subst hg; subst hs; exact h
theorem MapAt.not_cells (h : MapAt M w mb n g sz) {b : Nat} {cs : Array Value} {u : TypeId} (hb : Blk w b (.cells cs u)) : mb ≠ b := by
 obtain ⟨D, ⟨es, clock, hm, _⟩, _⟩ := h
 rintro rfl
 have := hm.symm.trans hb
 simp at this
theorem chgG_of_turned (h : w.mapTurned w' mb) : Chg mb w w' := by
 obtain ⟨es, clock, es', clock', hb, rfl⟩ := h
 exact ⟨rfl, rfl, rfl, by simp [Go.ChangeMaps.setBlock], fun i hi => Go.ChangeMaps.heap_setBlock_other hb _ hi⟩
variable {ops : Array Oper} {rest : List Oper} {o : Oper} {a : Act} {Q : Exit → Act → World → Prop}
theorem mapG_val {D : DataW Unit} (hs : ShowsG M D g sz) {y : κ} {v : Value} {ps : List MemPlace} (hv : plainElem P e v = some (D.atKey (M.kl y) (.lit (M.el M.ez)), ps)) : v = M.ev ((g y).getD M.ez) := by
 obtain ⟨s, rfl, hz⟩ := M.dec _ _ hv
 simp only [Prod.mk.injEq] at hz
 have h1 := hz.1
 rw [hs.atk] at h1
 simp only [DataW.lit.injEq] at h1
 rw [M.elinj _ _ h1]
theorem wpList_mapG_ok (hg : o.guard = none) (m x : Operand) (hop : o.op = Op.lookup t m x true) (hm : a.eval m = .map (some mb)) (h : MapAt M w mb n g sz) (y : κ) (hx : a.eval x = M.kv y) (hy : M.okk y) (v : ε) (th : Bool) (hv : (g y).getD M.ez = v) (ht : (g y).isSome = th)
   (hK : wpList P ops Q rest (a.put o.dst (.tuple #[M.ev v, .bool th])) w) : wpList P ops Q (o :: rest) a w := by
 obtain ⟨D, hown, hs⟩ := h
 refine wpList_lookup_own_ok w hg m x t hop k e M.keyed M.map (plainElem P e) (M.zero w) (.lit (M.el M.ez)) [] (M.enc _ M.okz) mb n D hm hown _ _ hx (M.keyOf _ hy) fun v ps hv' => ?_
 rw [mapG_val hs hv', hs.has, hv, ht]
 exact hK
theorem wpList_mapG_get (hg : Region.wanted o (yielded ops a.tmps) = true) (m x : Operand) (hop : o.op = Op.lookup t m x false) (hm : a.eval m = .map (some mb)) (h : MapAt M w mb n g sz) (y : κ) (hx : a.eval x = M.kv y) (hy : M.okk y) (v : ε) (hv : (g y).getD M.ez = v)
   (hK : wpList P ops Q rest (a.put o.dst (M.ev v)) w) : wpList P ops Q (o :: rest) a w := by
 obtain ⟨D, hown, hs⟩ := h
 obtain ⟨v', ps, hrun, hv'⟩ := hown.lookup M.keyed M.map (M.zero w) (M.enc _ M.okz) (M.keyOf _ hy)
 rw [mapG_val hs hv', hv] at hrun
 refine BigFrame.wpList_want hg fun K' hK' => ?_
 unfold Oper.wp
 simp [execOp, hop, hm, hx, hrun, Result.andThen]
 exact hK' _ _ hK
theorem wpList_mapG_put [DecidableEq κ] (hg : o.guard = none) (m x v : Operand) (hop : o.op = Op.mapUpdate t m x v) (hm : a.eval m = .map (some mb)) (h : MapAt M w mb n g sz) (hn : n < maxLen) (y : κ) (hx : a.eval x = M.kv y) (hy : M.okk y) (r : ε) (hv : a.eval v = M.ev r) (hr : M.oke r)
   (hK : ∀ w', MapAt M w' mb (n + 1) (updG g y (some r)) (if (g y).isSome then sz else sz + 1) → Chg mb w w' → wpList P ops Q rest (a.put o.dst undef) w') : wpList P ops Q (o :: rest) a w := by
 obtain ⟨D, hown, hs⟩ := h
 refine wpList_mapUpdate_in w hg m x v t hop k e M.keyed M.map (plainElem P e) mb n D hm hown hn _ _ _ hx hv (M.keyOf _ hy) (.lit (M.el r)) [] (M.enc _ hr) fun w' h1 h2 => ?_
 exact hK w' ⟨_, h1, hs.put M y r⟩ (chgG_of_turned h2)
theorem wpList_mapG_del [DecidableEq κ] (hg : o.guard = none) (m x : Operand) (hop : o.op = Op.call { callee := Callee.builtin Builtin.delete, args := #[m, x], argTypes := #[t, k] }) (hm : a.eval m = .map (some mb)) (h : MapAt M w mb n g sz) (y : κ) (hx : a.eval x = M.kv y) (hy : M.okk y)
   (hK : ∀ w', MapAt M w' mb n (updG g y none) (sz - if (g y).isSome then 1 else 0) → Chg mb w w' → wpList P ops Q rest (a.put o.dst (.tuple #[])) w') : wpList P ops Q (o :: rest) a w := by
 obtain ⟨D, hown, hs⟩ := h
 refine wpList_delete_own w hg m x t k hop e M.keyed M.map (plainElem P e) mb n D hm hown _ _ hx (M.keyOf _ hy) fun w' h1 h2 => ?_
 exact hK w' ⟨_, h1, hs.del M y⟩ (chgG_of_turned h2)
end
def intBool {P : Program} {t k e : TypeId} (hk : P.underlying k = some (.int .i64)) (ht : P.underlying t = some (.map k e)) (he : P.underlying e = some .bool) (hz : ∀ w, (zeroValue e).run P w = .ok (.bool false) w) : MapG P t k e Int Bool where
 kl := fun x => .int .i64 x
 kv := fun x => .int .i64 x
 okk := fun x => (Lit.int .i64 x).wf = true
 el := fun b => .bool b
 ev := fun b => .bool b
 oke := fun _ => True
 ez := false
 inj := fun x y h => by injection h
 isKey := fun x => by trivial
 keyed := Maps.int_keyed hk
 keyOf := fun x hx => Maps.keyOf_int_mk hk hx
 map := ht
 zero := hz
 enc := fun x _ => plainElem_bool he x
 okz := trivial
 dec := fun v z h => by
   unfold plainElem at h
   rw [he] at h
   cases v <;> simp at h
   exact ⟨_, rfl, h.symm⟩
 elinj := fun x y h => by injection h
def strStr {P : Program} {t k : TypeId} (hk : P.underlying k = some .string) (ht : P.underlying t = some (.map k k)) (hz : ∀ w, (zeroValue k).run P w = .ok (.string ⟨#[]⟩) w) : MapG P t k k (List UInt8) (List UInt8) where
 kl := fun x => .string x
 kv := fun x => .string ⟨x.toArray⟩
 okk := fun x => x.length ≤ maxLen
 el := fun x => .string x
 ev := fun x => .string ⟨x.toArray⟩
 oke := fun x => x.length ≤ maxLen
 ez := []
 inj := fun x y h => by injection h
 isKey := fun x => by trivial
 keyed := Maps.string_keyed hk
 keyOf := fun x hx => by simpa using WideMaps.keyOf_string_mk hk (s := ⟨x.toArray⟩) hx
 map := ht
 zero := hz
 enc := fun x hx => by simpa using plainElem_string (H := Unit) hk (s := ⟨x.toArray⟩) hx
 okz := by simp
 dec := fun v z h => by
   obtain ⟨s, rfl, hz, _⟩ := plainElem_string_inv hk h
   exact ⟨s.data.toList, by simp, hz⟩
 elinj := fun x y h => by injection h
end Dsd
