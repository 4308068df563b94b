/- append of many one-cell elements to a row of the call's own; the walk of slices.Clone at strings. -/
import Derived.Test.YtkhlglkipeoalaaDoorX6
import Derived.Lib.SliceRun
set_option linter.unusedSimpArgs false
set_option linter.unusedVariables false
namespace Go.Proofs.YtkhlglkipeoalaaDoor
open Go.RowKit Dsd

theorem wp_apps {P : Program} {w : World} {o : Oper} {a : Act} {K : Act → World → Prop} {Q : Exit → Act → World → Prop} (d s : Operand) (T E : TypeId)
    (ho : o.op = .call { callee := .builtin .append, args := #[d, s], argTypes := #[T, T] })
    (base : Nat) (z : Value) (bytes : Nat) (ht : P.underlying T = some (.slice E)) (hinfo : (P.info? E).map (fun i => (i.zero, i.size, i.bytes)) = some (some z, 1, bytes)) (hzs : z.cells.size = 1)
    (v : Value) (n : Nat) (xs : List Value) (hv : a.eval d = v) (hown : w.ownsRow base E 1 v n xs) (p : Option Addr) (m c : Nat) (news : List Value) (hs : a.eval s = .slice p m c) (hp : p.isSome) (hl : news.length = m) (hc : Cells w p news)
    (h1 : ∀ u ∈ news, u.oneCell' = true) (hn : n + m ≤ 100000000) (hby : bytes ≤ 1000) (hbase : base ≤ w.heap.size)
    (h : ∀ v' w', w'.ownsRow base E 1 v' (n + m) (xs ++ news) → w.grownBy w' v.ownBlock → K (a.put o.dst v') w') : o.wp P a w K Q := by
  obtain ⟨i, hi, hz0, hz1, hz2⟩ := info_parts hinfo
  obtain ⟨ad, rfl⟩ := Option.isSome_iff_exists.1 hp
  refine wp_append_own w d s T ho base E i z 1 bytes ht hi hz0 hz1 hz2 hzs (by decide) v n xs hv hown ad m c news hs (by omega) ?_ h1 (by unfold maxLen; omega) ?_ hbase fun v' w' h2 h3 _ => h v' w' h2 h3
  · intro j u hj
    have hjl : j < news.length := (List.getElem?_eq_some_iff.1 hj).1
    rcases hc with hc | ⟨b, off, he, hb, hcc⟩
    · subst hc; simp at hjl
    · obtain rfl := Option.some.inj he
      rw [addr_add, hcc j hjl]
      simp [List.getD, hj]
  · have : (n + m) * bytes ≤ 100000000 * 1000 := Nat.mul_le_mul hn hby
    omega
theorem wpList_apps {P : Program} {w : World} {ops : Array Oper} {rest : List Oper} {o : Oper} {a : Act} {Q : Exit → Act → World → Prop} (hgd : Region.wanted o (yielded ops a.tmps) = true) (d s : Operand) (T E : TypeId)
    (ho : o.op = .call { callee := .builtin .append, args := #[d, s], argTypes := #[T, T] })
    (base : Nat) (z : Value) (bytes : Nat) (ht : P.underlying T = some (.slice E)) (hinfo : (P.info? E).map (fun i => (i.zero, i.size, i.bytes)) = some (some z, 1, bytes)) (hzs : z.cells.size = 1)
    (v : Value) (n : Nat) (xs : List Value) (hv : a.eval d = v) (hown : w.ownsRow base E 1 v n xs) (p : Option Addr) (m c : Nat) (news : List Value) (hs : a.eval s = .slice p m c) (hp : p.isSome) (hl : news.length = m) (hc : Cells w p news)
    (h1 : ∀ u ∈ news, u.oneCell' = true) (hn : n + m ≤ 100000000) (hby : bytes ≤ 1000) (hbase : base ≤ w.heap.size)
    (h : ∀ v' w', w'.ownsRow base E 1 v' (n + m) (xs ++ news) → w.grownBy w' v.ownBlock → wpList P ops Q rest (a.put o.dst v') w') : wpList P ops Q (o :: rest) a w :=
  BigFrame.wpList_want hgd fun _ hK => wp_apps d s T E ho base z bytes ht hinfo hzs v n xs hv hown p m c news hs hp hl hc h1 hn hby hbase fun v' w' h2 h3 => hK _ _ (h v' w' h2 h3)
theorem strs_one (L : List (List UInt8)) : ∀ u ∈ (L.map fun s => Value.string ⟨s.toArray⟩), u.oneCell' = true := by
  intro u hu
  simp only [List.mem_map] at hu
  obtain ⟨s, _, rfl⟩ := hu
  rfl
/-- A row of one's own reads as a slice, whatever value it is. -/
theorem own_slice {w : World} {base : Nat} {e : TypeId} {size : Nat} {v : Value} {n : Nat} {xs : List Value} (h : w.ownsRow base e size v n xs) : ∃ q c, v = .slice q n c := by
  obtain ⟨hl, ⟨rfl, rfl⟩ | ⟨g, cap, cur, rfl, _⟩⟩ := h
  · exact ⟨none, 0, rfl⟩
  · exact ⟨_, _, rfl⟩

set_option maxRecDepth 100000 in
theorem Clone_strs (p : Option Addr) (n c : Nat) (L : List (List UInt8)) (w : World) (hs : Strs w p L) (hn : L.length = n) (hm : n ≤ 1000000) (hpn : p = none → n = 0) :
    Calls Tryd.prog 54 #[.slice p n c] w fun e w' => Ext w w' ∧ ∃ q k, e = .returned (.slice q n k) ∧ w'.ownsRow w.heap.size 9 1 (.slice q n k) n (L.map fun s => .string ⟨s.toArray⟩) := by
  have qT : ∀ (w : World) (a : Option Addr) (n c n' c' : Nat), (binOp .eql 24 (.slice a n c) (.slice none n' c')).run Tryd.prog w = .ok (.bool a.isNone) w := fun w a n c n' c' => Lib.run_eql_slice_nil w _ _ a n c n' c' Tryd.underlying24
  cases p with
  | none =>
    obtain rfl := hpn rfl
    have hL : L = [] := List.eq_nil_of_length_eq_zero hn
    subst hL
    clear hpn
    go_enter Tryd.func54, Tryd.ntmps54
    go_wp2
    go_ret
    exact ⟨Ext.refl _, none, 0, rfl, World.ownsRow_nil _ _ _ _⟩
  | some ad =>
    have Hs := Lib.hid hs
    have Hn := Lib.hid hn
    clear hpn hs hn
    go_enter Tryd.func54, Tryd.ntmps54
    go_wp2_with (first | (at_builtin; go_must (refine wpList_apps rfl (.tmp 5) (.tmp 6) 24 9 rfl w.heap.size (.string ByteArray.empty) 16 Tryd.underlying24 infoStr rfl _ 0 [] rfl (World.ownsRow_made w #[] 0 (Nat.le_refl _) (by simp) rfl) (some ad) n c (L.map fun s : List UInt8 => Value.string ⟨s.toArray⟩) rfl rfl (by simpa using Hn.out) (Strs.ext Hs.out (Ext.alloc _ _)) (strs_one L) (by omega) (by decide) (by simp) ?_; intro v' w1 hown1 hgr1)))
    go_ret
    have hb := Below.of_grown (B := w.heap.size) hgr1 (World.ownsRow_made (base := w.heap.size) (e := 9) (size := 1) w #[] 0 (Nat.le_refl _) (by simp) rfl) (Nat.le_refl _) (by simp)
    rw [Nat.zero_add, List.nil_append] at hown1
    obtain ⟨q, k, rfl⟩ := own_slice hown1
    exact ⟨Ext.trans' (Ext.alloc _ _) hb, q, k, rfl, hown1⟩
end Go.Proofs.YtkhlglkipeoalaaDoor
