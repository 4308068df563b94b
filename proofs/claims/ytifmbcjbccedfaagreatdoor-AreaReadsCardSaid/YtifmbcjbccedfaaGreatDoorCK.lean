/- A part of the proof. -/
import Derived.Test.YtifmbcjbccedfaaGreatDoorBJ
import Derived.Test.YtifmbcjbccedfaaGreatDoorFA

set_option linter.unusedSimpArgs false
set_option linter.unusedVariables false
namespace Dsd
noncomputable def rdGo (M : List (List UInt8)) (size : Int) : List Ent → List Recs → List Recs × Int
 | [], V => (V, 0)
 | x :: E, V => if (pageOf M x.2).2 ≠ 0 then ([], (pageOf M x.2).2) else match decOf size (pageOf M x.2).1 with
   | none => ([], 11)
   | some L => rdGo M size E (V ++ [L])
theorem rdGo_page {M : List (List UInt8)} {size : Int} {E : List Ent} {V : List Recs} {k : Nat} (hk : k < E.length) (h : (pageOf M (entAt E k).2).2 ≠ 0) : rdGo M size (E.drop k) V = ([], (pageOf M (entAt E k).2).2) := by
 rw [List.drop_eq_getElem_cons hk]
 have e : entAt E k = E[k] := by simp [entAt, List.getD, hk]
 rw [e] at h ⊢
 unfold rdGo
 rw [if_pos h]
theorem rdGo_none {M : List (List UInt8)} {size : Int} {E : List Ent} {V : List Recs} {k : Nat} (hk : k < E.length) (h : (pageOf M (entAt E k).2).2 = 0) (hn : ∀ L, ¬ Enc size L (pageOf M (entAt E k).2).1) : rdGo M size (E.drop k) V = ([], 11) := by
 rw [List.drop_eq_getElem_cons hk]
 have e : entAt E k = E[k] := by simp [entAt, List.getD, hk]
 rw [e] at h hn
 unfold rdGo
 rw [if_neg (by simp [h]), decOf_none hn]
theorem rdGo_some {M : List (List UInt8)} {size : Int} {E : List Ent} {V : List Recs} {k : Nat} {L : Recs} (hk : k < E.length) (h : (pageOf M (entAt E k).2).2 = 0) (hn : Enc size L (pageOf M (entAt E k).2).1) : rdGo M size (E.drop k) V = rdGo M size (E.drop (k + 1)) (V ++ [L]) := by
 rw [List.drop_eq_getElem_cons hk]
 have e : entAt E k = E[k] := by simp [entAt, List.getD, hk]
 rw [e] at h hn
 conv => lhs; unfold rdGo
 rw [if_neg (by simp [h]), decOf_some hn]
theorem rdGo_end {M : List (List UInt8)} {size : Int} {E : List Ent} {V : List Recs} : rdGo M size (E.drop E.length) V = (V, 0) := by rw [List.drop_length]; rfl
theorem dec_few (size : Int) (s : List UInt8) : (decNd size s).ents.length ≤ 1000000 := by
 by_cases h : decE size s = 0
 · obtain ⟨_, h2, h3⟩ := decE_zero h
   obtain ⟨n, h4, _, h5, _⟩ := dec_spec h2
   rw [h3, h5]
   have := h4.l2
   omega
 · unfold decNd
   rw [if_neg h]
   simp [Nd.zero]
noncomputable def readD (M : List (List UInt8)) (d : DS) (base : Int) : Ar × Int :=
 if keyedB d = false ∨ isBaseB base = false then (Ar.zero, 1)
 else if (pageOf M base).2 ≠ 0 then (Ar.zero, (pageOf M base).2)
 else if decE d.interval (pageOf M base).1 ≠ 0 ∨ headB d base (decNd d.interval (pageOf M base).1) = false then (Ar.zero, 11)
 else if (rdGo M d.interval (decNd d.interval (pageOf M base).1).ents []).2 ≠ 0 then (Ar.zero, (rdGo M d.interval (decNd d.interval (pageOf M base).1).ents []).2)
 else if areaB d ⟨base, decNd d.interval (pageOf M base).1, (rdGo M d.interval (decNd d.interval (pageOf M base).1).ents []).1⟩ = false then (Ar.zero, 11)
 else (⟨base, decNd d.interval (pageOf M base).1, (rdGo M d.interval (decNd d.interval (pageOf M base).1).ents []).1⟩, 0)
theorem readD_arg {M : List (List UInt8)} {d : DS} {base : Int} (h : keyedB d = false ∨ isBaseB base = false) : readD M d base = (Ar.zero, 1) := by unfold readD; rw [if_pos h]
theorem readD_page {M : List (List UInt8)} {d : DS} {base : Int} (h1 : keyedB d = true) (h2 : isBaseB base = true) (h : (pageOf M base).2 ≠ 0) : readD M d base = (Ar.zero, (pageOf M base).2) := by
 unfold readD; rw [if_neg (by simp [h1, h2]), if_pos h]
theorem readD_head {M : List (List UInt8)} {d : DS} {base : Int} (h1 : keyedB d = true) (h2 : isBaseB base = true) (h3 : (pageOf M base).2 = 0) (h : decE d.interval (pageOf M base).1 ≠ 0 ∨ headB d base (decNd d.interval (pageOf M base).1) = false) : readD M d base = (Ar.zero, 11) := by
 unfold readD; rw [if_neg (by simp [h1, h2]), if_neg (by simp [h3]), if_pos h]
theorem readD_go {M : List (List UInt8)} {d : DS} {base : Int} {n : Nd} (h1 : keyedB d = true) (h2 : isBaseB base = true) (h3 : (pageOf M base).2 = 0) (h4 : decE d.interval (pageOf M base).1 = 0) (hn : decNd d.interval (pageOf M base).1 = n) (h5 : headB d base n = true) :
   readD M d base = if (rdGo M d.interval n.ents []).2 ≠ 0 then (Ar.zero, (rdGo M d.interval n.ents []).2) else if areaB d ⟨base, n, (rdGo M d.interval n.ents []).1⟩ = false then (Ar.zero, 11) else (⟨base, n, (rdGo M d.interval n.ents []).1⟩, 0) := by
 unfold readD
 rw [if_neg (by simp [h1, h2]), if_neg (by simp [h3]), if_neg (by rw [hn]; simp [h4, h5]), hn]
end Dsd
