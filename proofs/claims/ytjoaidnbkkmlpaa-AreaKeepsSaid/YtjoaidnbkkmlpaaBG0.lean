/- Words for AreaRoom: a full area uses all of its pages; Put where there is a page left; a pair is loaded whole. -/
import Derived.Test.YtjoaidnbkkmlpaaBF0
import Derived.Test.YtjoaidnbkkmlpaaXH
set_option linter.unusedSimpArgs false
set_option linter.unusedVariables false
namespace Dsd
theorem runs_in : ∀ (f : Nat) (n : Int) (P : List Int), (∀ x, n ≤ x → x < n + f → x ∈ P) → f ≤ P.length
  | 0, _, _, _ => Nat.zero_le _
  | f + 1, n, P, h => by
    have h1 : n ∈ P := h n (Int.le_refl _) (by omega)
    have h2 := runs_in f (n + 1) (P.erase n) fun x h3 h4 => (List.mem_erase_of_ne (by omega)).2 (h x (by omega) (by push_cast; omega))
    rw [List.length_erase_of_mem h1] at h2
    have := List.length_pos_of_mem h1
    omega
theorem full_len {d : DS} {a : Ar} (s : ASpec d a) (h : unusedA d a = 0) : (a.nd.ents.length : Int) = d.area := by
  have hb := s.base
  unfold isBaseB at hb
  simp only [Bool.and_eq_true, decide_eq_true_eq] at hb
  have hk := keyed_spec s.keyed
  have hf := s.few
  unfold unusedA at h
  rcases unusedL_spec (P := a.nd.ents.map (·.2)) (f := d.area.toNat) (n := a.base + 1) (by omega) with ⟨_, h1⟩ | ⟨h1, _⟩
  · have h2 := runs_in d.area.toNat (a.base + 1) _ h1
    rw [List.length_map] at h2
    omega
  · omega
theorem left_len (a : Ar) (base : Int) (h : 1 < a.nd.ents.length) : (leftA a base).nd.ents.length < a.nd.ents.length := by
  unfold leftA
  simp only [clrL_len, List.length_take]
  omega
theorem right_len (a : Ar) (base : Int) (h : 1 < a.nd.ents.length) : (rightA a base).nd.ents.length < a.nd.ents.length := by
  unfold rightA
  simp only [renum_len, List.length_drop]
  omega
theorem put_pair {d : DS} {r : List UInt8} {R : Recs} : (pairsD d (putL d r R)).any (fun z => z == (keyD d r, r)) = true := by
  rw [List.any_eq_true]
  exact ⟨(keyD d r, r), List.mem_map.2 ⟨r, putL_in R, rfl⟩, by simp⟩
theorem any_take {α : Type} (p : α → Bool) (L : List α) (z : α) {k : Nat} (h : k < L.length) : (L.take (k + 1)).any p = ((L.take k).any p || p (L.getD k z)) := by
  rw [List.take_succ_eq_append_getElem h, List.any_append]
  simp [List.getD, h]
end Dsd
namespace Go.Proofs.Ytjoaidnbkkmlpaa
open Go.RowKit Dsd
/-- Put, where the area does not use all of its pages: the record is there. -/
theorem PutA_room {d : DS} {a : Ar} {q : Option Addr} {c : Nat} {p : Option Addr} {m : Nat} {r : List UInt8} {w : World} (I : AInv d a) (hv : ArV w a q c p m) (hr : recB d r = true) (hlt : (a.nd.ents.length : Int) < d.area) :
    Calls Try.prog 16 #[.agg #[.int .i64 d.id, .int .i64 d.org, .int .i64 d.format, .int .i64 d.length, .int .i64 d.block, .int .i64 d.keyAt, .int .i64 d.keyLength, .int .i64 d.interval, .int .i64 d.area, .int .i64 d.freeInterval, .int .i64 d.freeArea, .int .i64 d.base, .int .i64 d.altAt, .int .i64 d.altLength, .bool d.unique, .int .i64 d.cls, .string ⟨d.volume.toArray⟩, .string ⟨d.owner.toArray⟩, .int .i64 d.created, .int .i64 d.expires, .bool d.archived], .agg (arC a q c p m), .string ⟨r.toArray⟩] w fun e w' => Ext w w' ∧ ∃ (a' : Ar) (q : Option Addr) (c : Nat) (p : Option Addr) (m : Nat), e = .returned (.tuple #[.agg (arC a' q c p m), .bool true, .int .i64 0]) ∧ ArV w' a' q c p m ∧ AInv d a' ∧ recsOf a' = putL d r (recsOf a) :=
  (PutA_any d a q c p m r w I hv).mono fun e w' ⟨he, ho⟩ => by
    rw [if_pos hr] at ho
    obtain ⟨a', ok, q', c', p', m', h1, h2, h3, _, _, h4, h5, _⟩ := ho
    refine ⟨he, a', q', c', p', m', ?_, h2, h3, ?_⟩
    · cases ok
      · obtain ⟨_, h6⟩ := h5 rfl
        have := full_len I.spec h6
        omega
      · exact h1
    · cases ok
      · obtain ⟨_, h6⟩ := h5 rfl
        have := full_len I.spec h6
        omega
      · exact h4 rfl
theorem pairDescA : Try.prog.underlying 41 = some (.struct (Try.prog.fieldsOf 41)) := by kernel_rfl
theorem pairSizeA : (Try.prog.info? 41).map (·.size) = some 2 := by kernel_rfl
theorem pair_oneA (x y : List UInt8) : (#[.string ⟨x.toArray⟩, .string ⟨y.toArray⟩] : Array Value).all (·.oneCell') = true := by simp [Value.oneCell']
/-- A pair is loaded whole. -/
theorem wpList_pair {ops : Array Oper} {rest : List Oper} {o : Oper} {a : Act} {w : World} {Q : Exit → Act → World → Prop} (hw : Region.wanted o (yielded ops a.tmps) = true) (x : Operand) (ho : o.op = .load 41 x)
    (g off : Nat) (hx : a.eval x = .pointer (some ⟨g, off, none⟩)) (u v : List UInt8) (h0 : w.cell? ⟨g, off, none⟩ = some (.string ⟨u.toArray⟩)) (h1 : w.cell? ⟨g, off + 1, none⟩ = some (.string ⟨v.toArray⟩))
    (h : wpList Try.prog ops Q rest (a.put o.dst (.agg #[.string ⟨u.toArray⟩, .string ⟨v.toArray⟩])) w) : wpList Try.prog ops Q (o :: rest) a w :=
  BigFrame.wpList_want hw fun _ hK => by
    have hl : (loadCells ⟨g, off, none⟩ 2).run Try.prog w = .ok #[.string ⟨u.toArray⟩, .string ⟨v.toArray⟩] w :=
      run_loadCells_list (P := Try.prog) w ⟨g, off, none⟩ [.string ⟨u.toArray⟩, .string ⟨v.toArray⟩] (fun j y hy => by
        rw [addr_add]
        rcases j with _ | _ | j
        · simp at hy; subst hy; exact h0
        · simp at hy; subst hy; exact h1
        · simp at hy)
    have hlv : (loadVar 41 ⟨g, off, none⟩).run Try.prog w = .ok (.agg #[.string ⟨u.toArray⟩, .string ⟨v.toArray⟩]) w := by
      have hi := pairSizeA
      cases hq : Try.prog.info? 41 with
      | none => simp [hq] at hi
      | some i =>
        have hs : i.size = 2 := by simpa [hq] using hi
        have hagg : (isAgg 41).run Try.prog w = .ok true w := by
          unfold isAgg
          rw [Sem.run_bind, run_underlying pairDescA w]
          rfl
        simp [loadVar, Sem.run_bind, hagg, Go.sizeOf, typeInfo, hq, hs, hl]
    unfold Oper.wp execOp
    simp only [ho, hx, Instr.loadAt, Instr.sureAddr, Sem.run_bind, Sem.run_pure, Result.andThen_ok, hlv]
    exact hK _ _ h
theorem aopBuilt (r : List UInt8) : Try.prog.built 53 [(0, .string ⟨r.toArray⟩)] = some #[.string ⟨r.toArray⟩, .bool false] := by kernel_rfl
theorem pairBuilt (x y : List UInt8) : Try.prog.built 41 [(0, .string ⟨x.toArray⟩), (1, .string ⟨y.toArray⟩)] = some #[.string ⟨x.toArray⟩, .string ⟨y.toArray⟩] := by kernel_rfl
/-- A pair of a row of one's own. -/
theorem own_pair {w : World} {B g n c : Nat} {L : List (List UInt8 × List UInt8)} (h : w.ownsRow B 41 2 (.slice (some ⟨g, 0, none⟩) n c) n (prCells L)) {i : Nat} (hi : i < L.length) : w.cell? ⟨g, i * 2, none⟩ = some (.string ⟨(L.getD i ([], [])).1.toArray⟩) ∧ w.cell? ⟨g, i * 2 + 1, none⟩ = some (.string ⟨(L.getD i ([], [])).2.toArray⟩) ∧ g < w.heap.size := by
  obtain ⟨q', c', he, hp, hl⟩ := own_prs h
  simp only [Value.slice.injEq] at he
  obtain ⟨rfl, _⟩ := he
  rcases hp with hp | ⟨b, off, hb, hlt, hc⟩
  · subst hp; simp at hi
  · simp only [Option.some.injEq, Addr.mk.injEq] at hb
    obtain ⟨rfl, rfl, _⟩ := hb
    have h1 := hc i hi
    rw [Nat.zero_add] at h1
    exact ⟨h1.1, h1.2, hlt⟩
end Go.Proofs.Ytjoaidnbkkmlpaa
