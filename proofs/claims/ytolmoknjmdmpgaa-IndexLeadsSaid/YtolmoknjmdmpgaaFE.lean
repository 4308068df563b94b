/- Where a node's parse stands. No program in sight. -/
import Derived.Test.YtolmoknjmdmpgaaFA
import Derived.Test.YtolmoknjmdmpgaaDD
import Derived.Test.YtolmoknjmdmpgaaFC
import Derived.Test.YtolmoknjmdmpgaaXF
import Derived.BigQuiet
import Derived.Test.YtolmoknjmdmpgaaDF
set_option linter.unusedSimpArgs false
set_option linter.unusedVariables false
namespace Dsd
theorem numL_take1 {s : List UInt8} {a : Nat} (h : a < s.length) : numL ((s.drop a).take 1) = byt s a := by
  have e : (s.drop a).take 1 = [s[a]] := by rw [List.drop_eq_getElem_cons h]; rfl
  rw [e, numL_one]
  simp [byt, List.getD, h]
/-- What the parse has left is an end of the bytes. -/
theorem parse_at (data : List UInt8) : ∀ k, ∃ at', (parseTo data k).rest = data.drop at' ∧ (at' ≤ data.length ∨ data.length < 6)
  | 0 => ⟨min 6 data.length, by
      rcases Nat.le_total 6 data.length with h | h
      · rw [Nat.min_eq_left h]; rfl
      · rw [Nat.min_eq_right h]
        show data.drop 6 = _
        rw [List.drop_eq_nil_of_le h, List.drop_length], .inl (Nat.min_le_right _ _)⟩
  | k + 1 => by
    obtain ⟨a, ha, _⟩ := parse_at data k
    refine ⟨min (a + 2 + moreP (parseTo data k) + 4) data.length, ?_, .inl (Nat.min_le_right _ _)⟩
    show ((parseTo data k).rest.drop 2 |>.drop (moreP (parseTo data k))).drop 4 = _
    rw [ha, List.drop_drop, List.drop_drop, List.drop_drop]
    rw [show a + (2 + (moreP (parseTo data k) + 4)) = a + 2 + moreP (parseTo data k) + 4 by omega]
    rcases Nat.le_total (a + 2 + moreP (parseTo data k) + 4) data.length with h | h
    · rw [Nat.min_eq_left h]
    · rw [Nat.min_eq_right h, List.drop_length, List.drop_eq_nil_of_le (by omega)]
/-- A step of the parse, where there is room. -/
theorem step_at {data : List UInt8} {s : PS} {a : Nat} (hr : s.rest = data.drop a) (h2 : a + 2 ≤ data.length) (hf : byt data a ≤ s.before.length) (hm : a + 2 + byt data (a + 1) + 4 ≤ data.length) :
    stepN s = ⟨s.before.take (byt data a) ++ (data.drop (a + 2)).take (byt data (a + 1)), data.drop (a + 6 + byt data (a + 1)), s.ents ++ [(s.before.take (byt data a) ++ (data.drop (a + 2)).take (byt data (a + 1)), (numL ((data.drop (a + 2 + byt data (a + 1))).take 4) : Int))]⟩ := by
  have e1 : frontP s = byt data a := by
    unfold frontP
    rw [hr, numL_take1 (by omega)]
    omega
  have e2 : moreP s = byt data (a + 1) := by
    unfold moreP
    rw [hr, List.drop_drop, numL_take1 (by omega)]
  have e3 : belowP s = s.before.take (byt data a) ++ (data.drop (a + 2)).take (byt data (a + 1)) := by
    unfold belowP
    rw [e1, e2, hr, List.drop_drop]
  have e4 : restP s = data.drop (a + 2 + byt data (a + 1)) := by
    unfold restP
    rw [e2, hr, List.drop_drop, List.drop_drop, Nat.add_assoc]
  unfold stepN
  rw [e3, e4, List.drop_drop, show a + 2 + byt data (a + 1) + 4 = a + 6 + byt data (a + 1) by omega]
/-- Where there is no room, the bytes are no node's. -/
theorem dec_none {size : Int} {data : List UInt8} {k a : Nat} (hk : k < countN data) (hr : (parseTo data k).rest = data.drop a) (h : ¬ (a + 2 ≤ data.length ∧ byt data a ≤ (parseTo data k).before.length ∧ a + 2 + byt data (a + 1) + 4 ≤ data.length)) : decOkB size data = false := by
  cases hd : decOkB size data
  · rfl
  · obtain ⟨h1, h2⟩ := dec_room hd hk
    exfalso
    apply h
    have hlen : (parseTo data k).rest.length = data.length - a := by rw [hr, List.length_drop]
    have ha2 : a + 2 ≤ data.length := by omega
    have e2 : moreP (parseTo data k) = byt data (a + 1) := by
      unfold moreP
      rw [hr, List.drop_drop, numL_take1 (by omega)]
    rw [hr, numL_take1 (by omega)] at h1
    exact ⟨ha2, h1, by omega⟩
end Dsd
/- The walk of the reference's Decode, of nodes: at any bytes. -/
namespace Go.Proofs.Ytolmoknjmdmpgaa
open Go.RowKit Dsd
/-- append(d, s...) of entries, where s may be nil. -/
theorem wpList_appE {w : World} {ops : Array Oper} {rest : List Oper} {o : Oper} {a : Act} {Q : Exit → Act → World → Prop} (hgd : Region.wanted o (yielded ops a.tmps) = true) (d s : Operand)
    (ho : o.op = .call { callee := .builtin .append, args := #[d, s], argTypes := #[69, 69] }) (base : Nat) (v : Value) (n : Nat) (xs : List Value) (hv : a.eval d = v) (hown : w.ownsRow base 73 2 v n xs) (p : Option Addr) (m c : Nat) (news : List Value) (hs : a.eval s = .slice p m c) (hl : news.length = m * 2) (hc : Cells w p news)
    (h1 : ∀ u ∈ news, u.oneCell' = true) (hn : n + m ≤ 100000000) (hbase : base ≤ w.heap.size)
    (h : ∀ v' w', w'.ownsRow base 73 2 v' (n + m) (xs ++ news) → w.grownBy w' v.ownBlock → wpList Try.prog ops Q rest (a.put o.dst v') w') : wpList Try.prog ops Q (o :: rest) a w := by
  by_cases hm : m = 0
  · subst hm
    obtain rfl : news = [] := List.eq_nil_of_length_eq_zero (by omega)
    obtain ⟨q, k, rfl⟩ := own_slice hown
    have hle : n ≤ k := by
      rcases hown.2 with ⟨e, h0⟩ | ⟨g, cap, cur, e, _, _, h2, _⟩
      · cases e; omega
      · simp only [Value.slice.injEq] at e
        obtain ⟨_, _, rfl⟩ := e
        exact h2
    obtain ⟨i0, hi0, hz0, hzs, hzb⟩ := info_parts infoEntA
    have hr : (Builtin.append_ #[69, 69] o.type #[.slice q n k, .slice p 0 c]).run Try.prog w = .ok (.slice q n k) w := by
      cases p <;> cases q <;> simp [Builtin.append_, run_underlying Try.underlying69, Go.sizeOf, typeInfo, hi0, Builtin.lenOf, Builtin.firstCells, loadCells, loadCellsFrom, Go.storeCells, hle]
    refine BigFrame.wpList_want hgd fun K hK => Lib.wp_append_run w d s _ _ ho _ _ hv hs _ _ hr (hK _ _ (h _ _ (by simpa using hown) ⟨rfl, rfl, rfl, Nat.le_refl _, fun _ _ _ => rfl⟩))
  · obtain ⟨ad, rfl⟩ : ∃ ad, p = some ad := by
      obtain ⟨b, off, h, _⟩ := hc.at 0 (by omega)
      exact ⟨_, h⟩
    exact wpList_appk hgd d s 69 73 ho base (.agg #[.string ByteArray.empty, .int .i64 0]) 2 24 Try.underlying69 infoEntA rfl (by decide) v n xs hv hown (some ad) m c news hs rfl hl hc h1 hn (by decide) hbase h
theorem ndBuilt2 (x y : Int) : Try.prog.built 71 [(0, .int .i64 x), (1, .int .i64 y)] = some #[.int .i64 x, .int .i64 y, .slice none 0 0] := by kernel_rfl
theorem decN_no {size : Int} {data : List UInt8} {w w' : World} {e : Ending} (hz : isSizeB size = true) (hc : decOkB size data = false) (h1 : Ext w w') (h2 : e = .returned (.tuple #[.agg #[.int .i64 0, .int .i64 0, .slice none 0 0], .int .i64 11])) : DecNOut size data w e w' := by
  have h3 : decE size data = 11 := by unfold decE; rw [hz, hc]; rfl
  have h4 : decNd size data = Nd.zero := by unfold decNd; rw [h3, if_neg (by decide)]
  unfold DecNOut
  rw [h3, h4]
  exact ⟨h1, none, 0, h2, rfl, .inl ⟨rfl, rfl⟩⟩
theorem decN_yes {size : Int} {data : List UInt8} {w w' : World} {e : Ending} {q : Option Addr} {c B : Nat} (hz : isSizeB size = true) (hc1 : encNE size (parseNd data) = 0) (hc2 : encN size (parseNd data) = data) (hB : w.heap.size ≤ B) (h1 : Ext w w') (h2 : e = .returned (.tuple #[.agg #[.int .i64 (parseNd data).level, .int .i64 (parseNd data).next, .slice q (parseNd data).ents.length c], .int .i64 0]))
    (h5 : w'.ownsRow B 73 2 (.slice q (parseNd data).ents.length c) (parseNd data).ents.length (entCells (parseNd data).ents)) : DecNOut size data w e w' := by
  have h0 : decOkB size data = true := by
    unfold decOkB
    rw [decide_eq_true hc1, hc2]; simp
  have h3 : decE size data = 0 := by unfold decE; rw [hz, h0]; rfl
  have h4 : decNd size data = parseNd data := by unfold decNd; rw [if_pos h3]
  unfold DecNOut
  rw [h3, h4]
  exact ⟨h1, q, c, h2, own_le h5 hB⟩
theorem decOk_no {size : Int} {data : List UInt8} (hc : encNE size (parseNd data) ≠ 0 ∨ encN size (parseNd data) ≠ data) : decOkB size data = false := by
  unfold decOkB
  rcases hc with hc | hc
  · rw [decide_eq_false hc]; rfl
  · rw [Bool.and_eq_false_iff]; exact .inr (by simpa using hc)
theorem entCells_one : ∀ (L : List Ent), ∀ u ∈ entCells L, u.oneCell' = true
  | [], u, h => by simp [entCells] at h
  | x :: L, u, h => by
    have e : entCells (x :: L) = .string ⟨x.1.toArray⟩ :: .int .i64 x.2 :: entCells L := by simp [entCells]
    rw [e] at h
    simp only [List.mem_cons] at h
    rcases h with rfl | rfl | h
    · rfl
    · rfl
    · exact entCells_one L u h
theorem entCells_len : ∀ (L : List Ent), (entCells L).length = L.length * 2
  | [] => rfl
  | x :: L => by
    have e : entCells (x :: L) = .string ⟨x.1.toArray⟩ :: .int .i64 x.2 :: entCells L := by simp [entCells]
    rw [e, List.length_cons, List.length_cons, List.length_cons, entCells_len L]
    omega
end Go.Proofs.Ytolmoknjmdmpgaa
/- The walk of the reference's Load, of nodes in pages. -/
namespace Go.Proofs.Ytolmoknjmdmpgaa
open Go.RowKit Dsd
end Go.Proofs.Ytolmoknjmdmpgaa
