/- Plain laws of chapter 18: the addresses that Places tells are the ones that appends give. -/
import Derived.Test.YtkhlglkipeoalaaDoorX25
set_option linter.unusedSimpArgs false
set_option linter.unusedVariables false
namespace Dsd
/-- Records of the same lengths. -/
def SameL (L M : Recs) : Prop := L.map List.length = M.map List.length
theorem SameL.sum {L M : Recs} (h : SameL L M) : sumLen L = sumLen M := by unfold sumLen; rw [h]
theorem SameL.snoc {L M : Recs} {r s : List UInt8} (h : SameL L M) (hr : r.length = s.length) : SameL (L ++ [r]) (M ++ [s]) := by
  unfold SameL at *; simp [h, hr]
theorem SameL.one {r s : List UInt8} (hr : r.length = s.length) : SameL [r] [s] := by unfold SameL; simp [hr]
theorem runsL_same : ∀ {L M : Recs}, SameL L M → runsL L = runsL M
  | [], [], _ => rfl
  | [], _ :: _, h => by simp [SameL] at h
  | _ :: _, [], h => by simp [SameL] at h
  | x :: L, y :: M, h => by
    simp only [SameL, List.map_cons, List.cons.injEq] at h
    have ih := runsL_same (L := L) (M := M) h.2
    simp only [runsL, ih, h.1]
theorem fits_same {size : Int} {L M : Recs} (h : SameL L M) : fitsB size L = fitsB size M := by
  have h1 : sizeL L = sizeL M := by unfold sizeL fieldsL; rw [runsL_same h, h.sum]
  have h2 : allowedB L = allowedB M := by
    revert M
    induction L with
    | nil => intro M h; cases M with
      | nil => intro _; rfl
      | cons y M => simp [SameL] at h
    | cons x L ih => intro M h; cases M with
      | nil => simp [SameL] at h
      | cons y M =>
        intro _
        simp only [SameL, List.map_cons, List.cons.injEq] at h
        have := ih (M := M) h.2 (by unfold sizeL fieldsL; rw [runsL_same h.2, SameL.sum h.2])
        unfold allowedB at *
        simp only [List.all_cons, this]
        congr 1
        unfold okLen
        rw [h.1]
  unfold fitsB
  rw [h1, h2]
theorem addOf_same {size f : Int} {L M : Recs} {r s : List UInt8} (h : SameL L M) (hr : r.length = s.length) : SameL (addOf size L f r).1 (addOf size M f s).1 ∧ (addOf size L f r).2 = (addOf size M f s).2 ∧ addAt size L f r = addAt size M f s := by
  unfold addOf addAt
  rw [fits_same (h.snoc hr), h.sum]
  split
  · exact ⟨SameL.one hr, rfl, rfl⟩
  · exact ⟨h.snoc hr, rfl, rfl⟩
/-- The addresses that records get, one after the other. -/
def addrsC (size : Int) : List Recs → Recs → List Int
  | _, [] => []
  | C, r :: rs => addrP size C r :: addrsC size (putC size C r) rs
theorem addrsC_at (size : Int) : ∀ (rs : Recs) (C : List Recs) (j : Nat), j < rs.length → (addrsC size C rs).getD j 0 = addrP size ((rs.take j).foldl (putC size) C) (rs.getD j [])
  | [], C, j, h => by simp at h
  | r :: rs, C, 0, h => by simp [addrsC]
  | r :: rs, C, j + 1, h => by
    have := addrsC_at size rs (putC size C r) j (by simpa using h)
    simpa [addrsC] using this
theorem plFrom_made (size : Int) : ∀ (rs : Recs) (C : List Recs) (L : Recs), SameL L (C.headD []) → plFrom size L (C.length : Int) (rs.map fun r => (r.length : Int)) = addrsC size C rs
  | [], C, L, h => rfl
  | r :: rs, C, L, h => by
    have hr : (zsL (r.length : Int)).length = r.length := by simp [zsL]
    obtain ⟨s1, s2, s3⟩ := addOf_same (size := size) (f := (C.length : Int)) h hr
    obtain ⟨a1, a2, a3⟩ := add_put (size := size) (C := C) (r := r)
    rw [List.map_cons, plFrom, addrsC, s3, a3, s2, a2]
    rw [plFrom_made size rs (putC size C r) _ (by rw [← a1]; exact s1)]
    rfl
end Dsd
namespace Go.Proofs.YtkhlglkipeoalaaDoor
open Go.RowKit Dsd
/-- What Places answers over a made cluster. -/
theorem places_made {d : DS} {C : List Recs} (rs : Recs) (h : Made d C) (hv : validB d = true) (ho : d.org = 1) (hc : (C.map List.length).sum ≤ 1000) :
    placesOf (memOf d.interval C) (hdOf C) d (rs.map fun r => (r.length : Int)) = if (∀ r ∈ rs, 1 ≤ r.length ∧ (r.length : Int) ≤ d.length) then (addrsC d.interval C rs, 0) else ([], 2) := by
  have hcl := count_len C (fun L hL => (h.good L hL).1)
  have e1 : (hdOf C).count = ((C.map List.length).sum : Int) := rfl
  have e2 : (hdOf C).fin = (C.length : Int) := rfl
  have hp : plainB (hdOf C) = true := by
    unfold plainB
    rw [e1, e2]
    simp only [Bool.and_eq_true, decide_eq_true_eq]
    omega
  have hd : doorOf (hdOf C) d 1 = 0 := by unfold doorOf; rw [hv, hp]; simp [ho]
  have he : endOfC (memOf d.interval C) d.interval (hdOf C).fin = (C.headD [], 0) := end_at h.good
  unfold placesOf
  rw [hd, he, if_neg (by simp)]
  by_cases hl : ∀ r ∈ rs, 1 ≤ r.length ∧ (r.length : Int) ≤ d.length
  · have hb : (rs.map fun r => (r.length : Int)).any (badB d) = false := by
      rw [List.any_eq_false]
      intro x hx
      obtain ⟨r, hr, rfl⟩ := List.mem_map.1 hx
      have := hl r hr
      unfold badB
      simp
      omega
    rw [if_pos hl, if_neg (by rw [hb]; simp)]
    cases rs with
    | nil => rfl
    | cons r rs =>
      rw [if_neg (by simp), if_neg (by simp), e2, plFrom_made _ _ _ _ rfl]
  · have hb : (rs.map fun r => (r.length : Int)).any (badB d) = true := by
      rw [List.any_eq_true]
      have hx : ∃ r ∈ rs, ¬ (1 ≤ r.length ∧ (r.length : Int) ≤ d.length) := by
        false_or_by_contra
        rename_i hn
        exact hl fun r hr => by
          false_or_by_contra
          rename_i hq
          exact hn ⟨r, hr, hq⟩
      obtain ⟨r, hr, hq⟩ := hx
      refine ⟨_, List.mem_map.2 ⟨r, hr, rfl⟩, ?_⟩
      unfold badB
      simp
      omega
    rw [if_neg hl, if_pos hb]
end Go.Proofs.YtkhlglkipeoalaaDoor
