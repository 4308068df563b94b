/- Words over any program: rows of one's own, appends to them. -/
import Derived.Test.YtmnpappbacndlaaGreatDoorRows
import Derived.Test.YtmnpappbacndlaaGreatDoorB2
import Derived.Lib.SliceRun
import Derived.BigRegion
set_option linter.unusedSimpArgs false
set_option linter.unusedVariables false
namespace Go.Proofs.YtmnpappbacndlaaGreatDoor
open Go.RowKit Dsd

theorem infoStr : (Tryz.prog.info? 9).map (fun i => (i.zero, i.size, i.bytes)) = some (some (.string ByteArray.empty), 1, 16) := by kernel_rfl

theorem own_strs2 {w : World} {base : Nat} {e : TypeId} {v : Value} {L : List (List UInt8)} (h : w.ownsRow base e 1 v L.length (L.map fun s => .string ⟨s.toArray⟩)) : ∃ p cap, v = .slice p L.length cap ∧ Strs w p L ∧ L.length ≤ cap ∧ cap ≤ maxLen := by
  obtain ⟨p, cap, hv, hc, h1, h2⟩ := own_cells h
  exact ⟨p, cap, by simpa using hv, hc, by simpa using h1, h2⟩
theorem own_le {w : World} {base base' : Nat} {e : TypeId} {size : Nat} {v : Value} {n : Nat} {xs : List Value} (h : w.ownsRow base e size v n xs) (hb : base' ≤ base) : w.ownsRow base' e size v n xs := by
  obtain ⟨hl, h | ⟨g, cap, cur, h1, h2, h3⟩⟩ := h
  · exact ⟨hl, .inl h⟩
  · exact ⟨hl, .inr ⟨g, cap, cur, h1, Nat.le_trans hb h2, h3⟩⟩
theorem own_extR {w w' : World} {base : Nat} {e : TypeId} {size : Nat} {v : Value} {n : Nat} {xs : List Value} (h : w.ownsRow base e size v n xs) (he : Ext w w') : w'.ownsRow base e size v n xs :=
  h.kept (row := none) ⟨he.os, he.tape, he.output, he.size, fun k hk _ => he.block k hk⟩ (by cases v.ownBlock <;> simp)
theorem infoStrW : (Tryz.prog.info? 9).map (fun i => (i.zero, i.size, i.bytes)) = some (some (.string ByteArray.empty), 1, 16) := by kernel_rfl
theorem own_ext {w w' : World} {base : Nat} {e : TypeId} {size : Nat} {v : Value} {n : Nat} {xs : List Value} (h : w.ownsRow base e size v n xs) (he : Ext w w') : w'.ownsRow base e size v n xs :=
  h.kept (row := none) ⟨he.os, he.tape, he.output, he.size, fun k hk _ => he.block k hk⟩ (by cases v.ownBlock <;> simp)

theorem Blk.cell {w : World} {b : Nat} {v : Value} {t : TypeId} (h : Blk w b (.cells #[v] t)) : w.cell? ⟨b, 0, none⟩ = some v := by
  have hb : w.heap[b]? = _ := h
  simp [World.cell?, hb]
theorem Blk.soft {w : World} {b : Nat} {v : Value} {t : TypeId} (h : Blk w b (.cells #[v] t)) : w.frozen? ⟨b, 0, none⟩ = false := by
  have hb : w.heap[b]? = _ := h
  simp [World.frozen?, hb]
theorem Blk.grown {w w' : World} {row : Option Nat} {b : Nat} {o : Obj} (h : Blk w b o) (hg : w.grownBy w' row) (hne : row ≠ some b) : Blk w' b o := (hg.block b (Blk.lt h) (Ne.symm hne)).trans h
theorem Blk.other {w : World} {b : Nat} {o : Obj} (h : Blk w b o) (c : Nat) (v : Value) (hne : b ≠ c) : Blk (w.setCell ⟨c, 0, none⟩ v) b o := (heap_setCell_other w ⟨c, 0, none⟩ b v hne).trans h
theorem Blk.put {w : World} {b : Nat} {v u : Value} {t : TypeId} (h : Blk w b (.cells #[v] t)) : Blk (w.setCell ⟨b, 0, none⟩ u) b (.cells #[u] t) := by
  have := heap_setCell_same w b 0 _ _ u h
  unfold Blk; rw [this]; rfl
theorem small_nil : Small [] := ⟨by simp, by simp⟩
theorem own_chg {g : Nat} {w w' : World} {base : Nat} {e : TypeId} {size : Nat} {v : Value} {n : Nat} {xs : List Value} (h : w.ownsRow base e size v n xs) (c : Chg g w w') (hg : g < base) : w'.ownsRow base e size v n xs := by
  refine h.kept (row := some g) ⟨c.os, c.tape, c.output, by rw [c.size]; exact Nat.le_refl _, fun k _ hk => c.block k (fun e => hk (by rw [e]))⟩ ?_
  cases hv : v.ownBlock with
  | none => exact .inl rfl
  | some k => right; intro he; have := (h.lt k hv).1; simp at he; omega
theorem wp_apps {P : Program} {w : World} {o : Oper} {a : Act} {K : Act → World → Prop} {Q : Exit → Act → World → Prop} (d s : Operand) (T E : TypeId)
    (ho : o.op = .call { callee := .builtin .append, args := #[d, s], argTypes := #[T, T] })
    (base : Nat) (z : Value) (bytes : Nat) (ht : P.underlying T = some (.slice E)) (hinfo : (P.info? E).map (fun i => (i.zero, i.size, i.bytes)) = some (some z, 1, bytes)) (hzs : z.cells.size = 1)
    (v : Value) (n : Nat) (xs : List Value) (hv : a.eval d = v) (hown : w.ownsRow base E 1 v n xs) (p : Option Addr) (m c : Nat) (news : List Value) (hs : a.eval s = .slice p m c) (hp : p.isSome) (hl : news.length = m) (hc : Cells w p news)
    (h1 : ∀ u ∈ news, u.oneCell' = true) (hn : n + m ≤ 100000000) (hby : bytes ≤ 1000) (hbase : base ≤ w.heap.size)
    (h : ∀ v' w', w'.ownsRow base E 1 v' (n + m) (xs ++ news) → w.grownBy w' v.ownBlock → K (a.put o.dst v') w') : o.wp P a w K Q := by
  obtain ⟨i, hi, hz0, hz1, hz2⟩ := info_parts hinfo
  obtain ⟨ad, rfl⟩ := Option.isSome_iff_exists.1 hp
  refine wp_append_own w d s T ho base E i z 1 bytes ht hi hz0 hz1 hz2 hzs (by decide) v n xs hv hown ad m c news hs (by omega) ?_ h1 (by unfold maxLen; omega) ?_ hbase fun v' w' h2 h3 _ => h v' w' h2 h3
  · intro j u hj
    have hjl : j < news.length := (List.getElem?_eq_some_iff.1 hj).1
    rcases hc with hc | ⟨b, off, he, hb, hcc⟩
    · subst hc; simp at hjl
    · obtain rfl := Option.some.inj he
      rw [addr_add, hcc j hjl]
      simp [List.getD, hj]
  · have : (n + m) * bytes ≤ 100000000 * 1000 := Nat.mul_le_mul hn hby
    omega
theorem wpList_apps {P : Program} {w : World} {ops : Array Oper} {rest : List Oper} {o : Oper} {a : Act} {Q : Exit → Act → World → Prop} (hgd : Region.wanted o (yielded ops a.tmps) = true) (d s : Operand) (T E : TypeId)
    (ho : o.op = .call { callee := .builtin .append, args := #[d, s], argTypes := #[T, T] })
    (base : Nat) (z : Value) (bytes : Nat) (ht : P.underlying T = some (.slice E)) (hinfo : (P.info? E).map (fun i => (i.zero, i.size, i.bytes)) = some (some z, 1, bytes)) (hzs : z.cells.size = 1)
    (v : Value) (n : Nat) (xs : List Value) (hv : a.eval d = v) (hown : w.ownsRow base E 1 v n xs) (p : Option Addr) (m c : Nat) (news : List Value) (hs : a.eval s = .slice p m c) (hp : p.isSome) (hl : news.length = m) (hc : Cells w p news)
    (h1 : ∀ u ∈ news, u.oneCell' = true) (hn : n + m ≤ 100000000) (hby : bytes ≤ 1000) (hbase : base ≤ w.heap.size)
    (h : ∀ v' w', w'.ownsRow base E 1 v' (n + m) (xs ++ news) → w.grownBy w' v.ownBlock → wpList P ops Q rest (a.put o.dst v') w') : wpList P ops Q (o :: rest) a w :=
  BigFrame.wpList_want hgd fun _ hK => wp_apps d s T E ho base z bytes ht hinfo hzs v n xs hv hown p m c news hs hp hl hc h1 hn hby hbase fun v' w' h2 h3 => hK _ _ (h v' w' h2 h3)
theorem strs_one (L : List (List UInt8)) : ∀ u ∈ (L.map fun s => Value.string ⟨s.toArray⟩), u.oneCell' = true := by
  intro u hu
  simp only [List.mem_map] at hu
  obtain ⟨s, _, rfl⟩ := hu
  rfl
/-- A row of one's own reads as a slice, whatever value it is. -/
theorem own_slice {w : World} {base : Nat} {e : TypeId} {size : Nat} {v : Value} {n : Nat} {xs : List Value} (h : w.ownsRow base e size v n xs) : ∃ q c, v = .slice q n c := by
  obtain ⟨hl, ⟨rfl, rfl⟩ | ⟨g, cap, cur, rfl, _⟩⟩ := h
  · exact ⟨none, 0, rfl⟩
  · exact ⟨_, _, rfl⟩
/-- A store into a row of one's own. -/
theorem own_set {w : World} {base : Nat} {e : TypeId} {q : Option Addr} {n c : Nat} {xs : List Value} (h : w.ownsRow base e 1 (.slice q n c) n xs) (i : Nat) (hi : i < n) :
    ∃ g, q = some ⟨g, 0, none⟩ ∧ base ≤ g ∧ g < w.heap.size ∧ w.frozen? ⟨g, i, none⟩ = false ∧ w.cell? ⟨g, i, none⟩ = some (xs.getD i undef) ∧ ∀ u, (w.setCell ⟨g, i, none⟩ u).ownsRow base e 1 (.slice q n c) n (xs.set i u) ∧ Below base w (w.setCell ⟨g, i, none⟩ u) := by
  obtain ⟨hl, ⟨h1, h2⟩ | ⟨g, cap, cur, h1, h2, h3, h4, h5, h6, h7⟩⟩ := h
  · omega
  · simp at h1
    obtain ⟨rfl, rfl⟩ := h1
    have hb : Blk w g (.cells cur e) := h3
    refine ⟨g, rfl, h2, Blk.lt hb, Blk.free hb i, ?_, fun u => ⟨⟨by simp [hl], .inr ⟨g, c, cur.setIfInBounds i u, rfl, h2, Blk.setCell hb, h4, h5, by simp [h6], ?_⟩⟩, (Below.refl _ _).setCell h2 _⟩⟩
    · have hx : xs[i]? = cur[i]? := by rw [← h7, List.getElem?_take, if_pos (by omega)]; simp
      have hic : i < cur.size := by omega
      rw [Blk.val hb i (cur[i]) (by simp [hic])]
      simp only [List.getD, hx]
      simp [hic]
    · rw [← h7]
      simp [List.take_set]

theorem small_set {L : List (List UInt8)} (h : Small L) (i : Nat) (r : List UInt8) (hr : r.length ≤ 1000000) : Small (L.set i r) := by
  refine ⟨by simpa using h.1, fun s hs => ?_⟩
  rcases List.mem_or_eq_of_mem_set hs with h1 | rfl
  · exact h.2 s h1
  · exact hr
theorem set_strs (L : List (List UInt8)) (i : Nat) (r : List UInt8) : (L.map fun s => Value.string ⟨s.toArray⟩).set i (.string ⟨r.toArray⟩) = (L.set i r).map fun s => Value.string ⟨s.toArray⟩ := by
  rw [List.map_set]
theorem own_strs_p {w : World} {base : Nat} {e : TypeId} {v : Value} {n : Nat} {L : List (List UInt8)} (h : w.ownsRow base e 1 v n (L.map fun s => .string ⟨s.toArray⟩)) : ∃ q c, v = .slice q n c ∧ Strs w q L ∧ L.length = n ∧ n ≤ c ∧ c ≤ maxLen := by
  have hl : L.length = n := by have := h.1; simpa using this
  obtain ⟨q, c, rfl, hc, h1, h2⟩ := own_cells h
  simp at h1
  exact ⟨q, c, by simp [hl], hc, hl, by omega, h2⟩
open Go Go.RowKit in
/-- wpList_app, of an operation under a guard that is met. -/
theorem wpList_appW {P : Program} {w : World} {ops : Array Oper} {rest : List Oper} {o : Oper} {a : Act} {Q : Exit → Act → World → Prop} (hw : Region.wanted o (yielded ops a.tmps) = true) (d s : Operand) (T E : TypeId)
    (ho : o.op = .call { callee := .builtin .append, args := #[d, s], argTypes := #[T, T] })
    (base : Nat) (z : Value) (size bytes : Nat) (ht : P.underlying T = some (.slice E)) (hinfo : (P.info? E).map (fun i => (i.zero, i.size, i.bytes)) = some (some z, size, bytes)) (hzs : z.cells.size = size) (hsz : 0 < size)
    (v : Value) (n : Nat) (xs : List Value) (hv : a.eval d = v) (hown : w.ownsRow base E size v n xs) (b : Nat) (news : List Value) (hs : a.eval s = .slice (some ⟨b, 0, none⟩) 1 1) (hblk : Blk w b (.cells news.toArray E)) (hl : news.length = size)
    (h1 : ∀ u ∈ news, u.oneCell' = true) (hn : n + 1 ≤ 100000000) (hby : bytes ≤ 1000) (hbase : base ≤ w.heap.size)
    (h : ∀ v' w', w'.ownsRow base E size v' (n + 1) (xs ++ news) → w.grownBy w' v.ownBlock → wpList P ops Q rest (a.put o.dst v') w') : wpList P ops Q (o :: rest) a w :=
  wpList_step fun K hK => by
    rw [if_pos hw]
    exact wp_app d s T E ho base z size bytes ht hinfo hzs hsz v n xs hv hown b news hs hblk hl h1 hn hby hbase fun v' w' h2 h3 => hK _ _ (h v' w' h2 h3)
theorem own_strs3 {w : World} {base : Nat} {e : TypeId} {q : Option Addr} {n c : Nat} {L : List (List UInt8)} (h : w.ownsRow base e 1 (.slice q n c) n (L.map fun s => .string ⟨s.toArray⟩)) : Strs w q L := by
  obtain ⟨_, _, hqq, hss, _⟩ := own_strs_p h
  cases hqq; exact hss
/-- A row stands while an older one grows. -/
theorem own_older {w w' w0 : World} {base b0 : Nat} {e e0 : TypeId} {size s0 : Nat} {v v0 : Value} {n n0 : Nat} {xs xs0 : List Value} (h : w.ownsRow base e size v n xs) (hg : w.grownBy w' v0.ownBlock) (h0 : w0.ownsRow b0 e0 s0 v0 n0 xs0) (hB : w0.heap.size ≤ base) : w'.ownsRow base e size v n xs := by
  refine h.kept hg ?_
  cases hv : v.ownBlock with
  | none => exact .inl rfl
  | some k =>
    right
    intro he
    have h1 := h.lt k hv
    have h2 := h0.lt k he.symm
    omega
end Go.Proofs.YtmnpappbacndlaaGreatDoor
