/- Words for the walks of the laws on areas: operations that are short; what the laws share. -/
import Derived.Test.YtjoaidnbkkmlpaaBE
import Derived.Test.YtjoaidnbkkmlpaaBA
import Derived.Test.YtjoaidnbkkmlpaaBD
import Derived.Test.YtjoaidnbkkmlpaaAZ
set_option linter.unusedSimpArgs false
set_option linter.unusedVariables false
namespace Go.Proofs.Ytjoaidnbkkmlpaa
open Go.RowKit Dsd
theorem shortA_spec {L : List AOp} {most : Int} (h : shortA L most = true) : (L.length : Int) ≤ most ∧ ∀ i, (L.getD i ([], false)).1.length ≤ 300 := by
  unfold shortA at h
  simp only [Bool.and_eq_true, List.all_eq_true, decide_eq_true_eq] at h
  refine ⟨h.2, fun i => ?_⟩
  by_cases hi : i < L.length
  · rw [List.getD_eq_getElem?_getD, List.getElem?_eq_getElem hi]; exact h.1 _ (List.getElem_mem hi)
  · rw [List.getD_eq_getElem?_getD, List.getElem?_eq_none (by omega)]; simp
/-- run, at operations that the law allows. -/
theorem RunA_ok (p : Option Addr) (cap : Nat) (L : List AOp) (d : DS) (most : Int) (hm : most ≤ 60) (hd : keyedB d = true) (h : shortA L most = true) (w : World) (hs : AOps w p L) :
    Calls Try.prog 9 #[.agg #[.int .i64 d.id, .int .i64 d.org, .int .i64 d.format, .int .i64 d.length, .int .i64 d.block, .int .i64 d.keyAt, .int .i64 d.keyLength, .int .i64 d.interval, .int .i64 d.area, .int .i64 d.freeInterval, .int .i64 d.freeArea, .int .i64 d.base, .int .i64 d.altAt, .int .i64 d.altLength, .bool d.unique, .int .i64 d.cls, .string ⟨d.volume.toArray⟩, .string ⟨d.owner.toArray⟩, .int .i64 d.created, .int .i64 d.expires, .bool d.archived], .slice p L.length cap] w (RunOut d w) :=
  RunA_any d p cap L w hs hd (by have := (shortA_spec h).1; omega) (shortA_spec h).2
theorem recs_len {d : DS} {a : Ar} (s : ASpec d a) : (recsOf a).length ≤ 120000 := by
  obtain ⟨n1, n2, n3, n4, n5⟩ := inv_small s
  have hL : ∀ i, (a.ivs.getD i []).length ≤ 1000 := fun i => by
    by_cases hi : i < a.ivs.length
    · have := (fits_small (s.iv hi).1).1; omega
    · simp [List.getD, List.getElem?_eq_none (show a.ivs.length ≤ i by omega)]
  have h1 := lensTo_flat a.ivs a.ivs.length
  rw [List.take_length] at h1
  have h2 := lensTo_mono (m := 1000) hL (Nat.le_refl a.ivs.length)
  have h3 : a.ivs.length * 1000 ≤ 120 * 1000 := Nat.mul_le_mul_right _ (by omega)
  unfold recsOf; omega
theorem own_key {w : World} {B g n c : Nat} {L : List (List UInt8 × List UInt8)} (h : w.ownsRow B 41 2 (.slice (some ⟨g, 0, none⟩) n c) n (prCells L)) {i : Nat} (hi : i < L.length) : w.cell? ⟨g, i * 2, none⟩ = some (.string ⟨(L.getD i ([], [])).1.toArray⟩) ∧ g < w.heap.size := by
  obtain ⟨q', c', he, hp, hl⟩ := own_prs h
  simp only [Value.slice.injEq] at he
  obtain ⟨rfl, _⟩ := he
  rcases hp with hp | ⟨b, off, hb, hlt, hc⟩
  · subst hp; simp at hi
  · simp only [Option.some.injEq, Addr.mk.injEq] at hb
    obtain ⟨rfl, rfl, _⟩ := hb
    have := (hc i hi).1
    rw [Nat.zero_add] at this
    exact ⟨this, hlt⟩
theorem pairs_key {d : DS} {L : Recs} {i : Nat} (h : i < L.length) : ((pairsD d L).getD i ([], [])).1 = keyD d (L.getD i []) := by
  simp [pairsD, List.getD, h]
theorem pairs_len (d : DS) (L : Recs) : (pairsD d L).length = L.length := by simp [pairsD]
theorem pairs_app (d : DS) (A B : Recs) : pairsD d (A ++ B) = pairsD d A ++ pairsD d B := by simp [pairsD]
theorem pr_one (L : List (List UInt8 × List UInt8)) : ∀ u ∈ prCells L, u.oneCell' = true := fun u hu => by
  unfold prCells at hu
  obtain ⟨x, _, hx⟩ := List.mem_flatMap.1 hu
  simp at hx
  rcases hx with rfl | rfl <;> rfl
/-! ### An append to an older row, in a region that draws its order -/
theorem own_apart {w w' : World} {B : Nat} {e : TypeId} {k n : Nat} {v : Value} {xs : List Value} {row : Option Nat} (h : w.ownsRow B e k v n xs) (hg : w.grownBy w' row) (hr : ∀ g, row = some g → g < B) : w'.ownsRow B e k v n xs := by
  refine own_grown h hg fun g hv e => ?_
  have h1 := hr g e
  obtain ⟨_, ⟨hv0, _⟩ | ⟨g', cap, cur, hv', h2, _⟩⟩ := h
  · subst hv0; cases hv
  · subst hv'
    have : g' = g := by simpa [Value.ownBlock] using hv
    omega
def RG (B : Nat) (row : Option Nat) : Rel := fun w w' => B ≤ w.heap.size ∧ w.grownBy w' row
/-- One append (operation p), and the region's last operation s: ahead of it all worlds are known to be of some size. -/
def RG2 (p B : Nat) (row : Option Nat) : Nat → Rel := fun i w w' => if i = p then RG B row w w' else w' = w
def PrG (p B : Nat) (Pw : World → Prop) : Nat → World → Prop := fun i w => if i = p then Pw w ∧ B ≤ w.heap.size else B ≤ w.heap.size
theorem PrG.at {p B : Nat} {Pw : World → Prop} {w : World} (h : PrG p B Pw p w) : Pw w ∧ B ≤ w.heap.size := by simpa [PrG] using h
theorem PrG.size {p s B : Nat} {Pw : World → Prop} {w : World} (hne : s ≠ p) (h : PrG p B Pw s w) : B ≤ w.heap.size := by simpa [PrG, hne] using h
theorem gok_row (l : List Oper) (w0 : World) (p s : Nat) {B : Nat} {row : Option Nat} (hB : w0.heap.size ≤ B) (hr : ∀ g, row = some g → w0.heap.size ≤ g) : GOk l w0 [(p, []), (s, [])] (RG2 p B row) (fun _ _ => Any) :=
  ⟨fun i w w' h => by
    unfold RG2 at h
    split at h
    · exact (Below.refl _ w).grown h.2 (Nat.le_trans hB h.1) fun k hk => hr k hk
    · subst h; exact Below.refl _ _, fun _ _ => Any.stable, fun i j k hk => by simp [killB] at hk, fun i j hk => by simp [killB] at hk⟩
theorem prok_row {l : List Oper} {N p s B : Nat} {row : Option Nat} {Pw : World → Prop} (hm : mustB .any l p s = true) (hne : s ≠ p) (hP : ∀ w w', Ext w w' → Pw w → Pw w') (hB : orderB .any l.toArray N = true) : Pre.PrOk .any l.toArray [(p, []), (s, [])] (RG2 p B row) (PrG p B Pw) := by
  refine ⟨fun i _ w w' he h => ?_, fun i j hp hq hij => ?_⟩
  · unfold PrG at *
    split
    · rename_i hi
      rw [if_pos hi] at h
      exact ⟨hP w w' he h.1, Nat.le_trans h.2 he.size⟩
    · rename_i hi
      rw [if_neg hi] at h
      exact Nat.le_trans h he.size
  · simp [pivB] at hp hq
    rcases hp with rfl | rfl
    · rcases hq with rfl | rfl
      · exact absurd rfl hij
      · exact .inl (mustB_must hB hm)
    · rcases hq with rfl | rfl
      · refine .inr fun w w' c h => ?_
        have h1 := PrG.size hne h
        unfold RG2 at c
        rw [if_pos rfl] at c
        unfold PrG
        rw [if_neg hne]
        exact Nat.le_trans h1 c.2.size
      · exact absurd rfl hij
theorem own_keeps {md : Region.Mode} {l : List Oper} {p s B : Nat} {row : Option Nat} {f : Fact} (hne : s ≠ p) : Pre.KeepsP md l [(p, []), (s, [])] (RG2 p B row) p f := fun x hx => by
  simp at hx
  rcases hx with rfl | rfl
  · exact .inl (by simp [Pre.condX])
  · refine .inr fun v w w' h hv => ?_
    unfold RG2 at h
    rw [if_neg hne] at h
    subst h
    exact hv
theorem rows_keeps {md : Region.Mode} {l : List Oper} {K : Kills} {k p B B2 : Nat} {row : Option Nat} {E : TypeId} {size n : Nat} {xs : List Value} (hr : ∀ g, row = some g → g < B2) : Pre.KeepsP md l K (RG2 p B row) k (RowsF E B2 size n xs) := fun x _ => .inr fun v w w' h ⟨q, c, h1, h2⟩ => by
  unfold RG2 at h
  split at h
  · exact ⟨q, c, h1, own_apart h2 h.2 fun g hg => hr g hg⟩
  · subst h; exact ⟨q, c, h1, h2⟩
end Go.Proofs.Ytjoaidnbkkmlpaa
