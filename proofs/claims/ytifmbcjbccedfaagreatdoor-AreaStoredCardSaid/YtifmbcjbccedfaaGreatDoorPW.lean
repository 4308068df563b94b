/- A part of the proof. -/
import Derived.Test.YtifmbcjbccedfaaGreatDoorFA
import Derived.Test.YtifmbcjbccedfaaGreatDoorAW0

set_option linter.unusedSimpArgs false
set_option linter.unusedVariables false
namespace Dsd
noncomputable def rdGo (M : List (List UInt8)) (size : Int) : List Ent → List Recs → List Recs × Int
 | [], V => (V, 0)
 | x :: E, V => if (pageOf M x.2).2 ≠ 0 then ([], (pageOf M x.2).2) else match decOf size (pageOf M x.2).1 with
   | none => ([], 11)
   | some L => rdGo M size E (V ++ [L])
theorem rdGo_page {M : List (List UInt8)} {size : Int} {E : List Ent} {V : List Recs} {k : Nat} (hk : k < E.length) (h : (pageOf M (entAt E k).2).2 ≠ 0) : rdGo M size (E.drop k) V = ([], (pageOf M (entAt E k).2).2) := by
 rw [List.drop_eq_getElem_cons hk]
 have e : entAt E k = E[k] := by simp [entAt, List.getD, hk]
 rw [e] at h ⊢
 unfold rdGo
 rw [if_pos h]
theorem rdGo_none {M : List (List UInt8)} {size : Int} {E : List Ent} {V : List Recs} {k : Nat} (hk : k < E.length) (h : (pageOf M (entAt E k).2).2 = 0) (hn : ∀ L, ¬ Enc size L (pageOf M (entAt E k).2).1) : rdGo M size (E.drop k) V = ([], 11) := by
 rw [List.drop_eq_getElem_cons hk]
 have e : entAt E k = E[k] := by simp [entAt, List.getD, hk]
 rw [e] at h hn
 unfold rdGo
 rw [if_neg (by simp [h]), decOf_none hn]
theorem rdGo_some {M : List (List UInt8)} {size : Int} {E : List Ent} {V : List Recs} {k : Nat} {L : Recs} (hk : k < E.length) (h : (pageOf M (entAt E k).2).2 = 0) (hn : Enc size L (pageOf M (entAt E k).2).1) : rdGo M size (E.drop k) V = rdGo M size (E.drop (k + 1)) (V ++ [L]) := by
 rw [List.drop_eq_getElem_cons hk]
 have e : entAt E k = E[k] := by simp [entAt, List.getD, hk]
 rw [e] at h hn
 conv => lhs; unfold rdGo
 rw [if_neg (by simp [h]), decOf_some hn]
theorem rdGo_end {M : List (List UInt8)} {size : Int} {E : List Ent} {V : List Recs} : rdGo M size (E.drop E.length) V = (V, 0) := by rw [List.drop_length]; rfl
theorem dec_few (size : Int) (s : List UInt8) : (decNd size s).ents.length ≤ 1000000 := by
 by_cases h : decE size s = 0
 · obtain ⟨_, h2, h3⟩ := decE_zero h
   obtain ⟨n, h4, _, h5, _⟩ := dec_spec h2
   rw [h3, h5]
   have := h4.l2
   omega
 · unfold decNd
   rw [if_neg h]
   simp [Nd.zero]
noncomputable def readD (M : List (List UInt8)) (d : DS) (base : Int) : Ar × Int :=
 if keyedB d = false ∨ isBaseB base = false then (Ar.zero, 1)
 else if (pageOf M base).2 ≠ 0 then (Ar.zero, (pageOf M base).2)
 else if decE d.interval (pageOf M base).1 ≠ 0 ∨ headB d base (decNd d.interval (pageOf M base).1) = false then (Ar.zero, 11)
 else if (rdGo M d.interval (decNd d.interval (pageOf M base).1).ents []).2 ≠ 0 then (Ar.zero, (rdGo M d.interval (decNd d.interval (pageOf M base).1).ents []).2)
 else if areaB d ⟨base, decNd d.interval (pageOf M base).1, (rdGo M d.interval (decNd d.interval (pageOf M base).1).ents []).1⟩ = false then (Ar.zero, 11)
 else (⟨base, decNd d.interval (pageOf M base).1, (rdGo M d.interval (decNd d.interval (pageOf M base).1).ents []).1⟩, 0)
theorem readD_arg {M : List (List UInt8)} {d : DS} {base : Int} (h : keyedB d = false ∨ isBaseB base = false) : readD M d base = (Ar.zero, 1) := by unfold readD; rw [if_pos h]
theorem readD_page {M : List (List UInt8)} {d : DS} {base : Int} (h1 : keyedB d = true) (h2 : isBaseB base = true) (h : (pageOf M base).2 ≠ 0) : readD M d base = (Ar.zero, (pageOf M base).2) := by
 unfold readD; rw [if_neg (by simp [h1, h2]), if_pos h]
theorem readD_head {M : List (List UInt8)} {d : DS} {base : Int} (h1 : keyedB d = true) (h2 : isBaseB base = true) (h3 : (pageOf M base).2 = 0) (h : decE d.interval (pageOf M base).1 ≠ 0 ∨ headB d base (decNd d.interval (pageOf M base).1) = false) : readD M d base = (Ar.zero, 11) := by
 unfold readD; rw [if_neg (by simp [h1, h2]), if_neg (by simp [h3]), if_pos h]
theorem readD_go {M : List (List UInt8)} {d : DS} {base : Int} {n : Nd} (h1 : keyedB d = true) (h2 : isBaseB base = true) (h3 : (pageOf M base).2 = 0) (h4 : decE d.interval (pageOf M base).1 = 0) (hn : decNd d.interval (pageOf M base).1 = n) (h5 : headB d base n = true) :
   readD M d base = if (rdGo M d.interval n.ents []).2 ≠ 0 then (Ar.zero, (rdGo M d.interval n.ents []).2) else if areaB d ⟨base, n, (rdGo M d.interval n.ents []).1⟩ = false then (Ar.zero, 11) else (⟨base, n, (rdGo M d.interval n.ents []).1⟩, 0) := by
 unfold readD
 rw [if_neg (by simp [h1, h2]), if_neg (by simp [h3]), if_neg (by rw [hn]; simp [h4, h5]), hn]
end Dsd
namespace Dsd
theorem getD_set {α : Type} (L : List α) (i k : Nat) (y x : α) (h : i < L.length) : (L.set i y).getD k x = if k = i then y else L.getD k x := by
 simp only [List.getD, List.getElem?_set]
 by_cases h1 : i = k
 · subst h1; simp [h]
 · rw [if_neg h1, if_neg (fun e => h1 e.symm)]
theorem growP_at (M : List (List UInt8)) (p : Int) {k : Nat} (hk : k < M.length) : (growP M p).getD k [] = M.getD k [] := by
 unfold growP
 split
 · simp [List.getD, List.getElem?_append_left hk]
 · rfl
theorem putP_self {M : List (List UInt8)} {x : Wr} (h0 : 0 ≤ x.1) (h1 : x.1 < 10000) : pageOf (putP M x) x.1 = (x.2, 0) := by
 have hl : x.1 < ((growP M x.1).length : Int) := by unfold growP; rw [if_pos h1]; simp; omega
 have e : putP M x = (growP M x.1).set x.1.toNat x.2 := by unfold putP; rw [if_pos ⟨h0, hl⟩]
 unfold pageOf
 rw [e, List.length_set, if_pos ⟨h0, hl⟩, getD_set _ _ _ _ _ (by omega), if_pos rfl]
theorem putP_other {M : List (List UInt8)} {x : Wr} {q : Int} (hq : q < (M.length : Int)) (hne : x.1 ≠ q) : pageOf (putP M x) q = pageOf M q := by
 have g := growP_ge M x.1
 have l := putP_len M x
 have e : 0 ≤ q → (putP M x).getD q.toNat [] = M.getD q.toNat [] := fun h0 => by
   unfold putP
   split
   · rename_i h; rw [getD_set _ _ _ _ _ (by omega), if_neg (by omega), growP_at _ _ (by omega)]
   · exact growP_at _ _ (by omega)
 unfold pageOf
 by_cases h0 : 0 ≤ q
 · rw [if_pos ⟨h0, by omega⟩, if_pos ⟨h0, by omega⟩, e h0]
 · rw [if_neg (by omega), if_neg (by omega)]
theorem puts_other {q : Int} : ∀ (W : List Wr) (M : List (List UInt8)), q < (M.length : Int) → (∀ x ∈ W, x.1 ≠ q) → pageOf (putsP M W) q = pageOf M q
 | [], M, _, _ => rfl
 | x :: W, M, hq, hn => by
   have l := putP_len M x
   have := puts_other W (putP M x) (by omega) (fun y hy => hn y (List.mem_cons_of_mem _ hy))
   rw [show putsP M (x :: W) = putsP (putP M x) W from rfl, this, putP_other hq (hn x (List.mem_cons_self ..))]
theorem putP_reach {M : List (List UInt8)} {x : Wr} (h0 : 0 ≤ x.1) (h1 : x.1 < 10000) : x.1 < ((putP M x).length : Int) := by
 have := putP_self (M := M) h0 h1
 unfold pageOf at this
 split at this
 · rename_i h; exact h.2
 · simp at this
theorem puts_self : ∀ (W : List Wr) (M : List (List UInt8)), (W.map (·.1)).Nodup → (∀ x ∈ W, 0 ≤ x.1 ∧ x.1 < 10000) → ∀ x ∈ W, pageOf (putsP M W) x.1 = (x.2, 0)
 | [], _, _, _, x, hx => by cases hx
 | y :: W, M, hn, hb, x, hx => by
   rw [List.map_cons, List.nodup_cons] at hn
   rw [show putsP M (y :: W) = putsP (putP M y) W from rfl]
   rcases List.mem_cons.1 hx with rfl | hx
   · obtain ⟨b1, b2⟩ := hb x (List.mem_cons_self ..)
     rw [puts_other W (putP M x) (putP_reach b1 b2) (fun z hz e => hn.1 (by rw [← e]; exact List.mem_map_of_mem hz)), putP_self b1 b2]
   · exact puts_self W (putP M y) hn.2 (fun z hz => hb z (List.mem_cons_of_mem _ hz)) x hx
end Dsd
namespace Dsd
open Go.Proofs.YtifmbcjbccedfaaGreatDoor (encNE encNS)
theorem enc_of_fits {size : Int} {L : Recs} (h : fitsB size L = true) : Enc size L (encStr size L) := by
 refine ⟨?_, rfl⟩
 unfold fitsB at h
 simp only [Bool.and_eq_true, decide_eq_true_eq] at h
 obtain ⟨⟨h1, h2⟩, h3⟩ := h
 unfold encErr
 simp only [h1, h2]
 simp
 omega
theorem encNE_area {d : DS} {a : Ar} (h : ASpec d a) : encNE d.interval a.nd = 0 := by
 have := h.fits
 unfold Go.Proofs.YtifmbcjbccedfaaGreatDoor.encNE
 rw [h.size, h.node, if_neg (by simp), if_neg (by omega)]
theorem refL_mem {d : DS} {a : Ar} (h : ASpec d a) (x : Wr) : x ∈ refL d a ↔ x = (a.base, encN d.interval a.nd) ∨ x ∈ ivPages d a.nd.ents a.ivs := by
 obtain ⟨_, hb⟩ := area_nodup h
 unfold refL
 rw [List.mem_cons, refTo_mem]
 constructor
 · rintro (h1 | ⟨h1, _⟩)
   · exact .inl h1
   · exact .inr h1
 · rintro (h1 | h1)
   · exact .inl h1
   · have := hb x h1
     exact .inr ⟨h1, by omega, by omega⟩
theorem refL_keys {d : DS} {a : Ar} (h : ASpec d a) : ((refL d a).map (·.1)).Nodup ∧ ∀ x ∈ refL d a, a.base ≤ x.1 ∧ x.1 ≤ a.base + d.area := by
 obtain ⟨hn, hb⟩ := area_nodup h
 obtain ⟨s1, s2⟩ := refTo_sorted hn d.area.toNat
 have hf : 0 ≤ d.area := by have := h.few; omega
 refine ⟨?_, fun x hx => ?_⟩
 · have hp : (refL d a).Pairwise (fun x y => x.1 < y.1) := by
     unfold refL
     rw [List.pairwise_cons]
     exact ⟨fun x hx => (s2 x hx).1, s1⟩
   unfold List.Nodup
   rw [List.pairwise_map]
   exact hp.imp fun hab e => by omega
 · rcases (refL_mem h x).1 hx with rfl | hx
   · simp only; omega
   · have := hb x hx; omega
theorem ivPages_get {d : DS} {E : List Ent} {V : List Recs} {k : Nat} (hk : k < E.length) (hv : V.length = E.length) : ((entAt E k).2, encStr d.interval (V.getD k [])) ∈ ivPages d E V := by
 unfold ivPages
 refine List.mem_map.2 ⟨(entAt E k, V.getD k []), ?_, rfl⟩
 have e1 : entAt E k = E[k] := by simp [entAt, List.getD, hk]
 have e2 : V.getD k [] = V[k]'(by omega) := by simp [List.getD, show k < V.length by omega]
 rw [e1, e2]
 refine List.mem_iff_getElem.2 ⟨k, by rw [List.length_zip]; omega, by rw [List.getElem_zip]⟩
theorem rd_all {M : List (List UInt8)} {d : DS} {a : Ar} (h : ASpec d a) (hM : ∀ x ∈ refL d a, pageOf M x.1 = (x.2, 0)) : ∀ n k, n + k = a.nd.ents.length → rdGo M d.interval (a.nd.ents.drop k) (a.ivs.take k) = (a.ivs, 0)
 | 0, k, hk => by
   obtain rfl : k = a.nd.ents.length := by omega
   rw [rdGo_end, ← h.len, List.take_length]
 | n + 1, k, hk => by
   have hlt : k < a.nd.ents.length := by omega
   have hp := hM _ ((refL_mem h _).2 (.inr (ivPages_get (d := d) hlt h.len)))
   simp only at hp
   have hE := enc_of_fits (h.iv (show k < a.ivs.length by rw [h.len]; exact hlt)).1
   rw [rdGo_some (L := a.ivs.getD k []) hlt (by rw [hp]) (by rw [hp]; exact hE)]
   have e : a.ivs.take k ++ [a.ivs.getD k []] = a.ivs.take (k + 1) := by
     rw [List.take_succ_eq_append_getElem (show k < a.ivs.length by rw [h.len]; exact hlt)]
     simp [List.getD, show k < a.ivs.length by rw [h.len]; exact hlt]
   rw [e]
   exact rd_all h hM n (k + 1) (by omega)
theorem read_mem {M : List (List UInt8)} {d : DS} {a : Ar} (h : ASpec d a) (hM : ∀ x ∈ refL d a, pageOf M x.1 = (x.2, 0)) : readD M d a.base = (a, 0) := by
 have hp := hM _ ((refL_mem h _).2 (.inl rfl))
 simp only at hp
 have he := encNE_area h
 obtain ⟨d1, d2⟩ := dec_of_enc he
 have e0 : decE d.interval (encN d.interval a.nd) = 0 := by unfold decE; rw [h.size, d1]; simp
 have e1 : decNd d.interval (encN d.interval a.nd) = a.nd := by unfold decNd; rw [if_pos e0, d2]
 have hA : areaB d a = true := area_iff.2 h
 have hh : headB d a.base a.nd = true := by
   rw [← shaped_head h.base]
   unfold areaB at hA
   simp only [Bool.and_eq_true] at hA
   exact hA.1.1.2
 have hr := rd_all h hM a.nd.ents.length 0 (by omega)
 rw [List.drop_zero, List.take_zero] at hr
 rw [readD_go h.keyed h.base (by rw [hp]) (by rw [hp]; exact e0) (by rw [hp]; exact e1) hh, hr, if_neg (by simp)]
 have ea : (⟨a.base, a.nd, a.ivs⟩ : Ar) = a := rfl
 rw [ea, hA, if_neg (by simp)]
theorem read_pages {M : List (List UInt8)} {d : DS} {a : Ar} (h : ASpec d a) (hb : 0 ≤ a.base) (hm : a.base + d.area < 10000) : readD (putsP M (pagesD d a)) d a.base = (a, 0) := by
 have e : pagesD d a = refL d a := by unfold pagesD; rw [if_pos (area_iff.2 h)]
 obtain ⟨k1, k2⟩ := refL_keys h
 rw [e]
 exact read_mem h (puts_self (refL d a) M k1 (fun x hx => by have := k2 x hx; omega))
theorem read_writes {M : List (List UInt8)} {d : DS} {a b : Ar} (ha : ASpec d a) (hb : ASpec d b) (h0 : 0 ≤ a.base) (h1 : 0 ≤ b.base) (hm : a.base + d.area < 10000) (hm2 : b.base + d.area < 10000) : readD (putsP (putsP M (pagesD d a)) (writesD d a b)) d b.base = (b, 0) := by
 have e : pagesD d a = refL d a := by unfold pagesD; rw [if_pos (area_iff.2 ha)]
 have ew : writesD d a b = writesL (refL d a) (refL d b) := by unfold writesD; rw [if_pos ⟨area_iff.2 ha, area_iff.2 hb⟩]
 obtain ⟨k1, k2⟩ := refL_keys ha
 obtain ⟨k3, k4⟩ := refL_keys hb
 rw [e, ew]
 have hsub : (writesL (refL d a) (refL d b)).Sublist (refL d b) := List.filter_sublist
 have hnd : ((writesL (refL d a) (refL d b)).map (·.1)).Nodup := (hsub.map _).nodup k3
 refine read_mem hb (fun x hx => ?_)
 have hself := puts_self (refL d a) M k1 (fun x hx => by have := k2 x hx; omega)
 by_cases hc : x ∈ refL d a
 · have hp := hself x hc
   have hlt : x.1 < ((putsP M (refL d a)).length : Int) := by
     unfold pageOf at hp
     split at hp
     · rename_i h; exact h.2
     · simp at hp
   rw [puts_other _ _ hlt (fun y hy e => ?_)]
   · exact hp
   · have hy2 : y ∈ refL d b := hsub.subset hy
     have : y = x := by
       have := List.pairwise_iff_getElem.1 k3
       obtain ⟨i, hi, rfl⟩ := List.mem_iff_getElem.1 hy2
       obtain ⟨j, hj, rfl⟩ := List.mem_iff_getElem.1 hx
       rcases Nat.lt_trichotomy i j with h | h | h
       · have := this i j (by simpa using hi) (by simpa using hj) h
         simp only [List.getElem_map] at this
         exact absurd e this
       · subst h; rfl
       · have := this j i (by simpa using hj) (by simpa using hi) h
         simp only [List.getElem_map] at this
         exact absurd e.symm this
     subst this
     have := (List.mem_filter.1 hy).2
     simp [hc] at this
 · exact puts_self _ _ hnd (fun y hy => by have := k4 y (hsub.subset hy); omega) x (List.mem_filter.2 ⟨hx, by simp [hc]⟩)
theorem writes_self (d : DS) (a : Ar) : writesD d a a = [] := by
 unfold writesD
 split
 · unfold writesL
   rw [List.filter_eq_nil_iff]
   intro x hx
   simp [hx]
 · rfl
theorem writes_few {d : DS} {a b : Ar} (hb : ASpec d b) : ((writesD d a b).length : Int) ≤ d.area + 1 := by
 have hf := hb.few
 have hr : (refL d b).length ≤ b.nd.ents.length + 1 := by
   have hs : (refTo d b d.area.toNat).length ≤ (ivPages d b.nd.ents b.ivs).length := by
     have hn := (area_nodup hb).1
     obtain ⟨s1, _⟩ := refTo_sorted hn d.area.toNat
     have h1 : (refTo d b d.area.toNat).Nodup := by
       unfold List.Nodup
       exact s1.imp fun hab e => by rw [e] at hab; omega
     exact h1.length_le_of_subset (fun x hx => ((refTo_mem x _).1 hx).1)
   rw [ivPages_len hb.len] at hs
   unfold refL
   rw [List.length_cons]
   omega
 unfold writesD
 split
 · have := List.length_filter_le (fun x => !(refL d a).contains x) (refL d b)
   unfold writesL
   omega
 · simp; omega
end Dsd
namespace Dsd
open Go.Proofs.YtifmbcjbccedfaaGreatDoor (encNE encNS)
theorem rowsS {d : DS} {a : Ar} (s : ASpec d a) (i : Nat) : Small (a.ivs.getD i []) := by
 by_cases hi : i < a.ivs.length
 · obtain ⟨h1, h2⟩ := fits_small (s.iv hi).1
   exact ⟨by omega, fun x hx => by have := h2 x hx; omega⟩
 · simp [List.getD, List.getElem?_eq_none (show a.ivs.length ≤ i by omega), Small]
theorem refL_short {d : DS} {a : Ar} (s : ASpec d a) : (refL d a).length ≤ 9 ∧ ∀ x ∈ refL d a, x.2.length ≤ 512 := by
 obtain ⟨_, _, _, _, _, _, _, _, k9⟩ := keyed_spec s.keyed
 have hz := size_pos s.size
 refine ⟨?_, fun x hx => ?_⟩
 · have hf := s.few
   have hs : (refTo d a d.area.toNat).length ≤ (ivPages d a.nd.ents a.ivs).length := by
     have hn := (area_nodup s).1
     obtain ⟨s1, _⟩ := refTo_sorted hn d.area.toNat
     have h1 : (refTo d a d.area.toNat).Nodup := by
       unfold List.Nodup
       exact s1.imp fun hab e => by rw [e] at hab; omega
     exact h1.length_le_of_subset (fun x hx => ((refTo_mem x _).1 hx).1)
   rw [ivPages_len s.len] at hs
   have hl := s.len
   unfold refL
   rw [List.length_cons]
   omega
 · rcases (refL_mem s x).1 hx with rfl | hx
   · obtain ⟨n, _, _, _, h4, _⟩ := dec_spec (dec_of_enc (encNE_area s)).1
     simp only; omega
   · unfold ivPages at hx
     obtain ⟨y, hy, rfl⟩ := List.mem_map.1 hx
     have hv : y.2 ∈ a.ivs := (List.of_mem_zip hy).2
     obtain ⟨i, hi, he⟩ := List.mem_iff_getElem.1 hv
     have hf := (s.iv hi).1
     have e : a.ivs.getD i [] = y.2 := by simp [List.getD, hi, he]
     rw [e] at hf
     have := enc_length (enc_of_fits hf)
     simp only; omega
theorem pages_short {d : DS} {a : Ar} (s : ASpec d a) : (pagesD d a).length ≤ 9 ∧ ∀ x ∈ pagesD d a, x.2.length ≤ 512 := by
 have e : pagesD d a = refL d a := by unfold pagesD; rw [if_pos (area_iff.2 s)]
 rw [e]; exact refL_short s
theorem writes_short {d : DS} {a b : Ar} (ha : ASpec d a) (hb : ASpec d b) : (writesD d a b).length ≤ 9 ∧ ∀ x ∈ writesD d a b, x.2.length ≤ 512 := by
 have ew : writesD d a b = writesL (refL d a) (refL d b) := by unfold writesD; rw [if_pos ⟨area_iff.2 ha, area_iff.2 hb⟩]
 obtain ⟨h1, h2⟩ := refL_short hb
 have hsub : (writesL (refL d a) (refL d b)).Sublist (refL d b) := List.filter_sublist
 rw [ew]
 exact ⟨Nat.le_trans hsub.length_le h1, fun x hx => h2 x (hsub.subset hx)⟩
theorem pages_zero {d : DS} {a b : Ar} (ha : ASpec d a) (hb : ASpec d b) : pagesE d a = 0 ∧ writesE d a b = 0 := by
 unfold pagesE writesE
 rw [if_pos (area_iff.2 ha), if_pos ⟨area_iff.2 ha, area_iff.2 hb⟩]
 exact ⟨rfl, rfl⟩
theorem puts_all {P : List UInt8 → Prop} (h0 : P []) : ∀ (W : List Wr) (M : List (List UInt8)), (∀ s ∈ M, P s) → (∀ x ∈ W, P x.2) → ∀ s ∈ putsP M W, P s
 | [], _, h, _ => h
 | x :: W, M, h, hw => by
   rw [show putsP M (x :: W) = putsP (putP M x) W from rfl]
   exact puts_all h0 W _ (putP_mem M x P h h0 (hw x (List.mem_cons_self ..))) fun y hy => hw y (List.mem_cons_of_mem _ hy)
theorem mem_small {d : DS} {a b : Ar} (ha : ASpec d a) (hb : ASpec d b) : (putsP [] (pagesD d a)).length ≤ 90000 ∧ Small (putsP [] (pagesD d a)) ∧ Small (putsP (putsP [] (pagesD d a)) (writesD d a b)) := by
 obtain ⟨p1, p2⟩ := pages_short ha
 obtain ⟨w1, w2⟩ := writes_short ha hb
 have l1 := (putsP_len [] (pagesD d a)).2
 have l2 := (putsP_len (putsP [] (pagesD d a)) (writesD d a b)).2
 have q1 := puts_all (P := fun s => s.length ≤ 512) (by simp) (pagesD d a) [] (by simp) p2
 have q2 := puts_all (P := fun s => s.length ≤ 512) (by simp) (writesD d a b) _ q1 w2
 have m1 : (pagesD d a).length * 10000 ≤ 9 * 10000 := Nat.mul_le_mul_right _ p1
 have m2 : (writesD d a b).length * 10000 ≤ 9 * 10000 := Nat.mul_le_mul_right _ w1
 simp only [List.length_nil] at l1
 exact ⟨by omega, ⟨by omega, fun s hs => by have := q1 s hs; omega⟩, ⟨by omega, fun s hs => by have := q2 s hs; omega⟩⟩
end Dsd
