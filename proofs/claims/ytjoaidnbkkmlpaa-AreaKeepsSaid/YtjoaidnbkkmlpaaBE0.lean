/- Words for the walk of the laws' run: what stands as a map turns; the region that stores an area and a record. -/
import Derived.Test.YtjoaidnbkkmlpaaAW0
import Derived.Test.YtjoaidnbkkmlpaaMG
import Derived.Test.YtjoaidnbkkmlpaaPiv3
set_option linter.unusedSimpArgs false
set_option linter.unusedVariables false
namespace Go.Proofs.Ytjoaidnbkkmlpaa
open Go.RowKit Dsd
noncomputable def wantStr : MapG Try.prog 34 9 9 (List UInt8) (List UInt8) := strStr (by kernel_rfl) (by kernel_rfl) (fun w => by kernel_rfl)
theorem opDescA : Try.prog.underlying 53 = some (.struct (Try.prog.fieldsOf 53)) := by kernel_rfl
theorem opSizeA : (Try.prog.info? 53).map (·.size) = some 2 := by kernel_rfl
theorem op_oneA (r : List UInt8) (er : Bool) : (#[.string ⟨r.toArray⟩, .bool er] : Array Value).all (·.oneCell') = true := by simp [Value.oneCell']
/-- An operation is loaded whole. -/
theorem wpList_aop {ops : Array Oper} {rest : List Oper} {o : Oper} {a : Act} {w : World} {Q : Exit → Act → World → Prop} (hw : Region.wanted o (yielded ops a.tmps) = true) (x : Operand) (ho : o.op = .load 53 x)
    (g off : Nat) (hx : a.eval x = .pointer (some ⟨g, off, none⟩)) (r : List UInt8) (er : Bool) (h0 : w.cell? ⟨g, off, none⟩ = some (.string ⟨r.toArray⟩)) (h1 : w.cell? ⟨g, off + 1, none⟩ = some (.bool er))
    (h : wpList Try.prog ops Q rest (a.put o.dst (.agg #[.string ⟨r.toArray⟩, .bool er])) w) : wpList Try.prog ops Q (o :: rest) a w :=
  BigFrame.wpList_want hw fun _ hK => by
    have hl : (loadCells ⟨g, off, none⟩ 2).run Try.prog w = .ok #[.string ⟨r.toArray⟩, .bool er] w :=
      run_loadCells_list (P := Try.prog) w ⟨g, off, none⟩ [.string ⟨r.toArray⟩, .bool er] (fun j v hv => by
        rw [addr_add]
        rcases j with _ | _ | j
        · simp at hv; subst hv; exact h0
        · simp at hv; subst hv; exact h1
        · simp at hv)
    have hlv : (loadVar 53 ⟨g, off, none⟩).run Try.prog w = .ok (.agg #[.string ⟨r.toArray⟩, .bool er]) w := by
      have hi := opSizeA
      cases hq : Try.prog.info? 53 with
      | none => simp [hq] at hi
      | some i =>
        have hs : i.size = 2 := by simpa [hq] using hi
        have hagg : (isAgg 53).run Try.prog w = .ok true w := by
          unfold isAgg
          rw [Sem.run_bind, run_underlying opDescA w]
          rfl
        simp [loadVar, Sem.run_bind, hagg, Go.sizeOf, typeInfo, hq, hs, hl]
    unfold Oper.wp execOp
    simp only [ho, hx, Instr.loadAt, Instr.sureAddr, Sem.run_bind, Sem.run_pure, Result.andThen_ok, hlv]
    exact hK _ _ h
/-! ### What stands as a block turns that is no row of this type -/
def NoT (w : World) (b : Nat) (t : TypeId) : Prop := ∀ cs, ¬ Blk w b (.cells cs t)
theorem Typ.chgN {w w' : World} {q : Option Addr} {t : TypeId} {b : Nat} (h : Typ w q t) (hn : NoT w b t) (c : Chg b w w') : Typ w' q t := fun g o hq => by
  obtain ⟨cur, hc⟩ := h g o hq
  refine ⟨cur, c.blk hc fun e => ?_⟩
  subst e
  exact hn _ hc
theorem Cells.chgN {w w' : World} {q : Option Addr} {t : TypeId} {b : Nat} {xs : List Value} (h : Cells w q xs) (ht : Typ w q t) (hn : NoT w b t) (c : Chg b w w') : Cells w' q xs := by
  rcases h with h | ⟨g, o, rfl, hl, hc⟩
  · exact .inl h
  · refine cells_chgO (.inr ⟨g, o, rfl, hl, hc⟩) (fun e => ?_) c
    obtain ⟨cur, h1⟩ := ht g o rfl
    subst e
    exact hn _ h1
theorem RowV.chgN {w w' : World} {v : Value} {L : Recs} {b : Nat} (h : RowV w v L) (hn : NoT w b 9) (c : Chg b w w') : RowV w' v L := by
  obtain ⟨q, k, h1, h2, h3, h4, h5, h6⟩ := h
  exact ⟨q, k, h1, Cells.chgN h2 h6 hn c, h3, h4, h5, h6.chgN hn c⟩
theorem ArV.chgN {w w' : World} {a : Ar} {q : Option Addr} {c : Nat} {p : Option Addr} {m : Nat} {b : Nat} (h : ArV w a q c p m) (hn : ∀ t, NoT w b t) (k : Chg b w w') : ArV w' a q c p m := by
  obtain ⟨vs, g1, g2, g3⟩ := h.ivs
  exact ⟨Cells.chgN h.ents h.te (hn _) k, ⟨vs, Cells.chgN g1 h.tp (hn _) k, g2, fun i hi => (g3 i hi).chgN (hn _) k⟩, h.ec, h.ic, h.im, h.te.chgN (hn _) k, h.tp.chgN (hn _) k⟩
def IsMapB (w : World) (b : Nat) : Prop := ∃ es clock, w.heap[b]? = some (.map es clock)
theorem IsMapB.no {w : World} {b : Nat} (h : IsMapB w b) (t : TypeId) : NoT w b t := fun cs hc => by
  obtain ⟨es, cl, h1⟩ := h
  have := h1.symm.trans hc
  simp at this
theorem IsMapB.ne {w : World} {b g : Nat} {cs : Array Value} {t : TypeId} (h : IsMapB w b) (hc : Blk w g (.cells cs t)) : g ≠ b := fun e => by
  subst e
  exact h.no t cs hc
theorem MapAt.isMap {w : World} {mb n sz : Nat} {g : List UInt8 → Option (List UInt8)} (h : MapAt wantStr w mb n g sz) : IsMapB w mb := by
  obtain ⟨D, ⟨es, clock, hm, _⟩, _⟩ := h
  exact ⟨_, _, hm⟩
/-! ### Region 18 of run: an area is stored into a variable, a record into the map -/
def KE : Kills := [(5, [(2, 109)]), (6, [(0, 107)])]
def RE (ab mb : Nat) : Nat → Rel := fun i w w' => if i = 5 then (∃ cs, Blk w ab (.cells cs 33)) ∧ Chg ab w w' else IsMapB w mb ∧ Chg mb w w'
/-- What stands through both. -/
structure StE (db rb : Nat) (d : DS) (a : Ar) (q : Option Addr) (c : Nat) (p : Option Addr) (m : Nat) (w : World) : Prop where
  ds : DsAt w db d
  res : Blk w rb (.cells arZ 33)
  ar : ArV w a q c p m
section
variable {db rb ab mb xb ob n sz : Nat} {d : DS} {a : Ar} {q : Option Addr} {c : Nat} {p : Option Addr} {m : Nat} {g : List UInt8 → Option (List UInt8)} {r : List UInt8} {er : Bool} {w w' : World}
theorem StE.ext (h : StE db rb d a q c p m w) (e : Ext w w') : StE db rb d a q c p m w' := ⟨h.ds.ext e, e.blk _ _ h.res, h.ar.ext e⟩
theorem StE.map (h : StE db rb d a q c p m w) (i : IsMapB w mb) (k : Chg mb w w') : StE db rb d a q c p m w' := ⟨k.blk h.ds (i.ne h.ds), k.blk h.res (i.ne h.res), h.ar.chgN i.no k⟩
theorem StE.area (h : StE db rb d a q c p m w) {cs : Array Value} (i : Blk w ab (.cells cs 33)) (hne : rb ≠ ab) (k : Chg ab w w') : StE db rb d a q c p m w' := ⟨k.blk h.ds (blk_ne h.ds i (by decide)), k.blk h.res hne, h.ar.chgA i (by decide) (by decide) (by decide) k⟩
/-- Ahead of the store, and ahead of the map's turn. -/
def PrE (db rb ab mb xb ob n sz : Nat) (d : DS) (a : Ar) (q : Option Addr) (c : Nat) (p : Option Addr) (m : Nat) (g : List UInt8 → Option (List UInt8)) (r : List UInt8) (er : Bool) : Nat → World → Prop := fun i w =>
  if i = 5 then (∃ cs, cs.size = 5 ∧ Blk w ab (.cells cs 33)) ∧ ArAt w xb a q c p m ∧ StE db rb d a q c p m w
  else MapAt wantStr w mb n g sz ∧ Blk w ob (.cells #[.string ⟨r.toArray⟩, .bool er] 53)
def GE (db rb ab mb n sz : Nat) (d : DS) (a : Ar) (q : Option Addr) (c : Nat) (p : Option Addr) (m : Nat) (g : List UInt8 → Option (List UInt8)) : Nat → Nat → Fact := fun i _ x w =>
  if i = 5 then x = .agg (arC a q c p m) ∧ ArAt w ab a q c p m ∧ StE db rb d a q c p m w
  else x = .map (some mb) ∧ MapAt wantStr w mb n g sz
theorem PrE.at5 (h : PrE db rb ab mb xb ob n sz d a q c p m g r er 5 w) : (∃ cs, cs.size = 5 ∧ Blk w ab (.cells cs 33)) ∧ ArAt w xb a q c p m ∧ StE db rb d a q c p m w := by simpa [PrE] using h
theorem PrE.at6 (h : PrE db rb ab mb xb ob n sz d a q c p m g r er 6 w) : MapAt wantStr w mb n g sz ∧ Blk w ob (.cells #[.string ⟨r.toArray⟩, .bool er] 53) := by simpa [PrE] using h
theorem GE.at5 {j : Nat} {x : Value} (h : GE db rb ab mb n sz d a q c p m g 5 j x w) : x = .agg (arC a q c p m) ∧ ArAt w ab a q c p m ∧ StE db rb d a q c p m w := by simpa [GE] using h
theorem GE.at6 {j : Nat} {x : Value} (h : GE db rb ab mb n sz d a q c p m g 6 j x w) : x = .map (some mb) ∧ MapAt wantStr w mb n g sz := by simpa [GE] using h
theorem prok_run {l : List Oper} {N : Nat} (hm : mustB .any l 5 6 = true) (hB : orderB .any l.toArray N = true) : Pre.PrOk .any l.toArray KE (RE ab mb) (PrE db rb ab mb xb ob n sz d a q c p m g r er) := by
  refine ⟨fun i hp w w' he h => ?_, fun i j hp hq hne => ?_⟩
  · unfold PrE at *
    by_cases h5 : i = 5
    · rw [if_pos h5] at h ⊢
      obtain ⟨⟨cs, h1, h2⟩, h3, h4⟩ := h
      exact ⟨⟨cs, h1, he.blk _ _ h2⟩, h3.ext he, h4.ext he⟩
    · rw [if_neg h5] at h ⊢
      exact ⟨h.1.ext he, he.blk _ _ h.2⟩
  · simp [pivB, KE] at hp hq
    rcases hp with rfl | rfl
    · rcases hq with rfl | rfl
      · exact absurd rfl hne
      · exact .inl (mustB_must hB hm)
    · rcases hq with rfl | rfl
      · refine .inr fun w w' c h => ?_
        obtain ⟨h1, h2⟩ := PrE.at6 h
        unfold RE at c
        rw [if_pos rfl] at c
        obtain ⟨⟨cs, hc⟩, k⟩ := c
        unfold PrE
        rw [if_neg (by decide)]
        exact ⟨h1.chg k (h1.not_cells hc), k.blk h2 (blk_ne h2 hc (by decide))⟩
      · exact absurd rfl hne
theorem gok_run {w0 : World} {l : List Oper} (hab : w0.heap.size ≤ ab) (hmb : w0.heap.size ≤ mb) (hm1 : mustB .any l 2 5 = true) (hm2 : mustB .any l 0 6 = true) : GOk l w0 KE (RE ab mb) (GE db rb ab mb n sz d a q c p m g) := by
  refine ⟨fun i w w' h => ?_, fun i j => ?_, fun i j k hk hp hne x w w' h hx => ?_, fun i j hk => ?_⟩
  · unfold RE at h
    split at h
    · exact ⟨h.2.os, h.2.tape, h.2.output, by rw [h.2.size]; exact Nat.le_refl _, fun k hk => h.2.block k (by omega)⟩
    · exact ⟨h.2.os, h.2.tape, h.2.output, by rw [h.2.size]; exact Nat.le_refl _, fun k hk => h.2.block k (by omega)⟩
  · intro v w w' he h
    unfold GE at *
    split
    · rename_i h5; rw [if_pos h5] at h; exact ⟨h.1, h.2.1.ext he, h.2.2.ext he⟩
    · rename_i h5; rw [if_neg h5] at h; exact ⟨h.1, h.2.ext he⟩
  · simp [killB, pivB, KE] at hk hp
    rcases hk with ⟨rfl, rfl⟩ | ⟨rfl, rfl⟩
    · obtain rfl : k = 6 := by omega
      obtain ⟨h1, h2, h3⟩ := GE.at5 hx
      unfold RE at h
      rw [if_neg (by decide)] at h
      unfold GE
      rw [if_pos rfl]
      exact ⟨h1, h.2.blk h2 (h.1.ne h2), h3.map h.1 h.2⟩
    · obtain rfl : k = 5 := by omega
      obtain ⟨h1, h2⟩ := GE.at6 hx
      unfold RE at h
      rw [if_pos rfl] at h
      obtain ⟨⟨cs, hc⟩, k⟩ := h
      unfold GE
      rw [if_neg (by decide)]
      exact ⟨h1, h2.chg k (h2.not_cells hc)⟩
  · simp [killB, KE] at hk
    rcases hk with ⟨rfl, rfl⟩ | ⟨rfl, rfl⟩
    · exact .inr hm1
    · exact .inr hm2
end
/-- v, ok := m[x], and delete(m, x), at a map of strings. -/
theorem wpList_wantS_ok {ops : Array Oper} {rest : List Oper} {o : Oper} {a : Act} {w : World} {Q : Exit → Act → World → Prop} {mb n sz : Nat} {g : List UInt8 → Option (List UInt8)} (hg : o.guard = none) (m x : Operand) (hop : o.op = Op.lookup 34 m x true) (hm : a.eval m = .map (some mb)) (h : MapAt wantStr w mb n g sz) (y : List UInt8)
    (hx : a.eval x = .string ⟨y.toArray⟩) (hy : y.length ≤ maxLen) (v : List UInt8) (th : Bool) (hv : (g y).getD [] = v) (ht : (g y).isSome = th)
    (hK : wpList Try.prog ops Q rest (a.put o.dst (.tuple #[.string ⟨v.toArray⟩, .bool th])) w) : wpList Try.prog ops Q (o :: rest) a w :=
  wpList_mapG_ok (M := wantStr) hg m x hop hm h y hx hy v th hv ht hK
theorem wpList_wantS_del {ops : Array Oper} {rest : List Oper} {o : Oper} {a : Act} {w : World} {Q : Exit → Act → World → Prop} {mb n sz : Nat} {g : List UInt8 → Option (List UInt8)} (hg : o.guard = none) (m x : Operand) (hop : o.op = Op.call { callee := Callee.builtin Builtin.delete, args := #[m, x], argTypes := #[34, 9] }) (hm : a.eval m = .map (some mb)) (h : MapAt wantStr w mb n g sz) (y : List UInt8)
    (hx : a.eval x = .string ⟨y.toArray⟩) (hy : y.length ≤ maxLen)
    (hK : ∀ w', MapAt wantStr w' mb n (updG g y none) (sz - if (g y).isSome then 1 else 0) → Chg mb w w' → wpList Try.prog ops Q rest (a.put o.dst (.tuple #[])) w') : wpList Try.prog ops Q (o :: rest) a w :=
  wpList_mapG_del (M := wantStr) hg m x hop hm h y hx hy hK
/-- m[x] = r, as a step. -/
theorem wp_mapG_put {o : Oper} {a : Act} {w : World} {K : Act → World → Prop} {Q : Exit → Act → World → Prop} {mb n sz : Nat} {g : List UInt8 → Option (List UInt8)} (m x v : Operand) (hop : o.op = Op.mapUpdate 34 m x v) (hm : a.eval m = .map (some mb)) (h : MapAt wantStr w mb n g sz) (hn : n < maxLen)
    (y : List UInt8) (hx : a.eval x = .string ⟨y.toArray⟩) (hy : y.length ≤ maxLen) (r : List UInt8) (hv : a.eval v = .string ⟨r.toArray⟩) (hr : r.length ≤ maxLen)
    (hK : ∀ w', MapAt wantStr w' mb (n + 1) (updG g y (some r)) (if (g y).isSome then sz else sz + 1) → Chg mb w w' → K (a.put o.dst undef) w') : o.wp Try.prog a w K Q := by
  obtain ⟨D, hown, hs⟩ := h
  obtain ⟨w', hrun, r1, r2⟩ := hown.store wantStr.keyed wantStr.map hn (wantStr.keyOf y hy) (wantStr.enc r hr)
  unfold Oper.wp
  simp [execOp, hop, hm, hx, hv]
  rw [show (Value.string ⟨y.toArray⟩) = wantStr.kv y from rfl, show (Value.string ⟨r.toArray⟩) = wantStr.ev r from rfl]
  simp [hrun, Result.andThen]
  exact hK _ ⟨_, r1, hs.put wantStr y r⟩ (chgG_of_turned r2)
end Go.Proofs.Ytjoaidnbkkmlpaa
