/- A tree of nodes over a sorted list of areas: where a key is led. No program in sight. -/
import Derived.Test.YtolmoknjmdmpgaaGreatFA
import Derived.Test.YtolmoknjmdmpgaaGreatAM
set_option linter.unusedSimpArgs false
set_option linter.unusedVariables false
namespace Dsd
/-- An area: its lower bound, its base. -/
abbrev Itm := List UInt8 × Int
def lowOf (L : List Itm) : List UInt8 := (L.head?.map (·.1)).getD []
theorem lowOf_cons (x : Itm) (L : List Itm) : lowOf (x :: L) = x.1 := rfl
theorem lowOf_append {A B : List Itm} (h : A ≠ []) : lowOf (A ++ B) = lowOf A := by
  cases A with
  | nil => exact absurd rfl h
  | cons x A => rfl
def Srt (L : List Itm) : Prop := L.Pairwise fun x y => bl x.1 y.1 = true
/-- What lies below a page of a level: the areas, in order, and the pages of the nodes. -/
def Sub (M : List (List UInt8)) (d : DS) (mn : Nat) : Nat → Int → List Itm → List Int → Prop
  | 0, page, it, pgs => (∃ low, it = [(low, page)]) ∧ pgs = []
  | l + 1, page, it, pgs => (loadD M d page ((l + 1 : Nat) : Int)).2 = 0 ∧ mn ≤ (loadD M d page ((l + 1 : Nat) : Int)).1.ents.length ∧ ∃ parts : List (List Itm × List Int), parts.length = (loadD M d page ((l + 1 : Nat) : Int)).1.ents.length ∧
      it = (parts.map (·.1)).flatten ∧ pgs = page :: (parts.map (·.2)).flatten ∧
      ∀ i, i < parts.length → Sub M d mn l (entAt (loadD M d page ((l + 1 : Nat) : Int)).1.ents i).2 (parts.getD i ([], [])).1 (parts.getD i ([], [])).2 ∧
        (i + 1 < parts.length → (entAt (loadD M d page ((l + 1 : Nat) : Int)).1.ents i).1 = lowOf (parts.getD (i + 1) ([], [])).1)
theorem sub_ne {M : List (List UInt8)} {d : DS} {mn : Nat} : ∀ {l : Nat} {page : Int} {it : List Itm} {pgs : List Int}, Sub M d mn l page it pgs → it ≠ []
  | 0, _, _, _, ⟨⟨low, h⟩, _⟩ => by rw [h]; simp
  | l + 1, page, it, pgs, ⟨h0, _, parts, hl, hi, hp, hs⟩ => by
    have hn := (load_spec h0).1.l1
    cases hq : parts with
    | nil => rw [hq, List.length_nil] at hl; omega
    | cons x ps =>
      have h1 := (hs 0 (by rw [hl]; omega)).1
      rw [hq] at h1
      have h2 := sub_ne h1
      simp only [List.getD_cons_zero] at h2
      rw [hi, hq]
      simp only [List.map_cons, List.flatten_cons]
      intro h3
      exact h2 (List.append_eq_nil_iff.1 h3).1
theorem find_bound (k : List UInt8) : ∀ {E : List Ent}, E ≠ [] → (∀ j, j < findNd E k → bl k (entAt E j).1 = false) ∧ (findNd E k + 1 < E.length → bl k (entAt E (findNd E k)).1 = true)
  | [], h => absurd rfl h
  | x :: E, _ => by
    rw [find_cons]
    cases hb : bl k x.1
    · rw [if_neg (by simp)]
      by_cases hE : E = []
      · rw [if_pos hE]
        exact ⟨fun j hj => absurd hj (Nat.not_lt_zero _), fun h => by rw [hE] at h; simp at h⟩
      · rw [if_neg hE]
        obtain ⟨h1, h2⟩ := find_bound k hE
        refine ⟨fun j hj => ?_, fun h => ?_⟩
        · cases j with
          | zero => simpa [entAt] using hb
          | succ j =>
            have := h1 j (by omega)
            simpa [entAt] using this
        · have := h2 (by simp at h; omega)
          simpa [entAt] using this
    · rw [if_pos rfl]
      exact ⟨fun j hj => absurd hj (Nat.not_lt_zero _), fun _ => by simpa [entAt] using hb⟩
theorem node_last_go : ∀ {E : List Ent} {b : List UInt8}, entsB b E = true → ∀ i, i + 1 = E.length → (entAt E i).1 = []
  | [], _, _, i, h => by simp at h
  | x :: E, b, hb, i, h => by
    obtain ⟨_, h2, _, _, h5⟩ := ents_cons hb
    cases i with
    | zero =>
      have : E = [] := List.eq_nil_of_length_eq_zero (by rw [List.length_cons] at h; omega)
      have := h2.2 this
      simpa [entAt] using this
    | succ i =>
      have := node_last_go h5 i (by simp at h; omega)
      simpa [entAt] using this
theorem node_last {n : Nd} (h : NSpec n) {i : Nat} (hi : i + 1 = n.ents.length) : (entAt n.ents i).1 = [] := node_last_go h.ents i hi
theorem flatten_at {α : Type} {L : List (List α)} {i : Nat} (h : i < L.length) : L.flatten = (L.take i).flatten ++ L.getD i [] ++ (L.drop (i + 1)).flatten := by
  have e : L.getD i [] = L[i] := by simp [List.getD, h]
  have e2 : L = L.take i ++ L[i] :: L.drop (i + 1) := by rw [← List.drop_eq_getElem_cons h, List.take_append_drop]
  rw [e]
  refine (congrArg List.flatten e2).trans ?_
  rw [List.flatten_append, List.flatten_cons, List.append_assoc]
theorem srt_mem {A B : List Itm} (h : Srt (A ++ B)) {x y : Itm} (hx : x ∈ A) (hy : y ∈ B) : bl x.1 y.1 = true := (List.pairwise_append.1 h).2.2 x hx y hy
theorem lowOf_mem {A : List Itm} (h : A ≠ []) : ∃ x ∈ A, lowOf A = x.1 := by
  cases A with
  | nil => exact absurd rfl h
  | cons x A => exact ⟨x, by simp, rfl⟩
/-- Where a key is led, so many levels down. -/
structure LedTo (M : List (List UInt8)) (mn : Nat) (h : Hd) (d : DS) (key : List UInt8) (items : List Itm) (j : Nat) : Prop where
  er : erTo M h d key j = 0
  seg : ∃ (pre seg post : List Itm) (pgs : List Int), items = pre ++ seg ++ post ∧ Sub M d mn (h.height.toNat - j) (pgAt M h d key j) seg pgs ∧ lowTo M h d key j = lowOf seg ∧ highTo M h d key j = lowOf post ∧ bl key (lowOf seg) = false ∧ (post ≠ [] → bl key (lowOf post) = true)
theorem led_start {M : List (List UInt8)} {mn : Nat} {h : Hd} {d : DS} {key : List UInt8} {items : List Itm} {pgs : List Int} (hs : Sub M d mn h.height.toNat h.root items pgs) (h0 : lowOf items = []) : LedTo M mn h d key items 0 :=
  ⟨rfl, [], items, [], pgs, by simp, hs, by rw [h0]; rfl, rfl, by rw [h0]; exact bl_nil _, fun h => absurd rfl h⟩
theorem getD_map {α β : Type} (f : α → β) (L : List α) (i : Nat) (x : α) (y : β) (h : f x = y) : (L.map f).getD i y = f (L.getD i x) := by
  simp only [List.getD, List.getElem?_map]
  cases L[i]? <;> simp [h]
theorem led_step {M : List (List UInt8)} {mn : Nat} {h : Hd} {d : DS} {key : List UInt8} {items : List Itm} {j : Nat} (hh : 0 ≤ h.height) (hj : j < h.height.toNat) (hsrt : Srt items) (hl : LedTo M mn h d key items j) : LedTo M mn h d key items (j + 1) := by
  obtain ⟨he, pre, seg, post, pgs, hi, hsub, hlo, hhi, hk1, hk2⟩ := hl
  obtain ⟨l, hl⟩ : ∃ l, h.height.toNat - j = l + 1 := ⟨h.height.toNat - j - 1, by omega⟩
  have hlev : h.height - (j : Int) = ((l + 1 : Nat) : Int) := by omega
  have hl2 : h.height.toNat - (j + 1) = l := by omega
  rw [hl] at hsub
  obtain ⟨h0, _, parts, hpl, hpi, hpp, hps⟩ := hsub
  have hnd : ndAt M h d key j = (loadD M d (pgAt M h d key j) ((l + 1 : Nat) : Int)).1 := by unfold ndAt; rw [hlev]
  have her : erAt M h d key j = 0 := by unfold erAt; rw [hlev]; exact h0
  rw [← hnd] at hpl hps
  have hsp := (load_spec h0).1
  rw [← hnd] at hsp
  have hne : (ndAt M h d key j).ents ≠ [] := by have := hsp.l1; intro h9; rw [h9] at this; simp at this
  have hfl := find_lt key hne
  obtain ⟨hf1, hf2⟩ := find_bound key hne
  have hlow1 : lowTo M h d key (j + 1) = lowS (lowTo M h d key j) (ndAt M h d key j) (findNd (ndAt M h d key j).ents key) := rfl
  have hhigh1 : highTo M h d key (j + 1) = highS (highTo M h d key j) (ndAt M h d key j) (findNd (ndAt M h d key j).ents key) := rfl
  have hpg1 := pgAt_succ M h d key j
  generalize ndAt M h d key j = nd at *
  generalize findNd nd.ents key = i at *
  have hip : i < parts.length := by omega
  obtain ⟨hsi, hbi⟩ := hps i hip
  rw [← hpg1] at hsi
  have hml : (parts.map (·.1)).length = parts.length := List.length_map _
  have hgd : ∀ k, (parts.map (·.1)).getD k [] = (parts.getD k ([], [])).1 := fun k => getD_map _ parts k ([], []) [] rfl
  have hsplit := flatten_at (L := parts.map (·.1)) (i := i) (by omega)
  rw [← hpi, hgd] at hsplit
  -- the lower bound of a part is that of its node's entry
  have hlowp : ∀ k, k + 1 < parts.length → lowOf (parts.getD (k + 1) ([], [])).1 = (entAt nd.ents k).1 := fun k hk => ((hps k (by omega)).2 hk).symm
  have hsne : (parts.getD i ([], [])).1 ≠ [] := sub_ne hsi
  have hseg0 : lowOf seg = lowOf (parts.getD 0 ([], [])).1 := by
    have h9 := flatten_at (L := parts.map (·.1)) (i := 0) (by omega)
    rw [← hpi, hgd] at h9
    rw [h9]
    simp only [List.take_zero, List.flatten_nil, List.nil_append]
    exact lowOf_append (sub_ne (hps 0 (by omega)).1)
  have hsrt' : Srt seg := by
    have h9 := hsrt
    rw [hi] at h9
    exact (List.pairwise_append.1 (List.pairwise_append.1 h9).1).2.1
  have hpost : post ≠ [] → ∀ x ∈ seg, bl x.1 (lowOf post) = true := fun hp x hx => by
    have h9 := hsrt
    rw [hi] at h9
    obtain ⟨y, hy, e⟩ := lowOf_mem hp
    rw [e]
    exact srt_mem h9 (List.mem_append_right _ hx) hy
  refine ⟨by rw [erTo_next he]; exact her, pre ++ ((parts.map (·.1)).take i).flatten, (parts.getD i ([], [])).1, ((parts.map (·.1)).drop (i + 1)).flatten ++ post, (parts.getD i ([], [])).2, ?_, by rw [hl2]; exact hsi, ?_, ?_, ?_, ?_⟩
  · rw [hi, hsplit]; simp
  · rw [hlow1, hlo]
    unfold lowS
    by_cases h9 : 0 < i
    · rw [if_pos h9]
      obtain ⟨k, rfl⟩ : ∃ k, i = k + 1 := ⟨i - 1, by omega⟩
      have e1 := hlowp k hip
      rw [Nat.add_sub_cancel, ← e1]
      have hlt : bl (lowOf seg) (lowOf (parts.getD (k + 1) ([], [])).1) = true := by
        rw [hsplit] at hsrt'
        have hA : ((parts.map (·.1)).take (k + 1)).flatten ≠ [] := by
          intro h8
          have h7 := flatten_at (L := (parts.map (·.1)).take (k + 1)) (i := 0) (by rw [List.length_take]; omega)
          rw [h8] at h7
          have h6 := (List.append_eq_nil_iff.1 h7.symm).1
          have h5 := (List.append_eq_nil_iff.1 h6).2
          have h4 : ((parts.map (·.1)).take (k + 1)).getD 0 [] = (parts.getD 0 ([], [])).1 := by
            rw [← hgd 0]
            simp [List.getD, List.getElem?_take]
          rw [h4] at h5
          exact sub_ne (hps 0 (by omega)).1 h5
        obtain ⟨x, hx, ex⟩ := lowOf_mem hA
        obtain ⟨y, hy, ey⟩ := lowOf_mem hsne
        have e2 : lowOf seg = lowOf ((parts.map (·.1)).take (k + 1)).flatten := by
          rw [hsplit, List.append_assoc]; exact lowOf_append hA
        rw [e2, ex, ey]
        rw [List.append_assoc] at hsrt'
        exact srt_mem hsrt' hx (List.mem_append_left _ hy)
      rw [if_pos hlt]
    · have hi0 : i = 0 := by omega
      rw [if_neg h9, hseg0, hi0]
  · rw [hhigh1, hhi]
    unfold highS
    by_cases h9 : i + 1 < parts.length
    · have e1 := hlowp i h9
      have hdn : ((parts.map (·.1)).drop (i + 1)).flatten = (parts.getD (i + 1) ([], [])).1 ++ ((parts.map (·.1)).drop (i + 2)).flatten := by
        rw [List.drop_eq_getElem_cons (by omega)]
        rw [List.flatten_cons, ← hgd (i + 1)]
        simp [List.getD, show i + 1 < parts.length by omega]
      have hne1 : (parts.getD (i + 1) ([], [])).1 ≠ [] := sub_ne (hps (i + 1) h9).1
      have hlast : (entAt nd.ents i).1 ≠ [] := by
        intro h8
        have h7 := hf2 (by omega)
        rw [h8, bl_nil] at h7
        cases h7
      have hcl : lowOf (((parts.map (·.1)).drop (i + 1)).flatten ++ post) = (entAt nd.ents i).1 := by
        rw [hdn, List.append_assoc, lowOf_append hne1, e1]
      rw [hcl, if_pos]
      refine ⟨hlast, ?_⟩
      by_cases hp : post = []
      · left; rw [hp]; rfl
      · right
        obtain ⟨x, hx, ex⟩ := lowOf_mem hne1
        rw [← e1, ex]
        refine hpost hp x ?_
        rw [hsplit, hdn]
        exact List.mem_append_right _ (List.mem_append_left _ hx)
    · have hi1 : i + 1 = parts.length := by omega
      have hd0 : (parts.map (·.1)).drop (i + 1) = [] := List.drop_eq_nil_of_le (by omega)
      have hlast : (entAt nd.ents i).1 = [] := node_last hsp (by omega)
      rw [hd0, if_neg (by rw [hlast]; simp)]
      rfl
  · by_cases h9 : 0 < i
    · obtain ⟨k, rfl⟩ : ∃ k, i = k + 1 := ⟨i - 1, by omega⟩
      rw [hlowp k hip]
      exact hf1 k (by omega)
    · have hi0 : i = 0 := by omega
      rw [hi0, ← hseg0]; exact hk1
  · intro hpn
    by_cases h9 : i + 1 < parts.length
    · have hne1 : (parts.getD (i + 1) ([], [])).1 ≠ [] := sub_ne (hps (i + 1) h9).1
      have hdn : ((parts.map (·.1)).drop (i + 1)).flatten = (parts.getD (i + 1) ([], [])).1 ++ ((parts.map (·.1)).drop (i + 2)).flatten := by
        rw [List.drop_eq_getElem_cons (by omega)]
        rw [List.flatten_cons, ← hgd (i + 1)]
        simp [List.getD, show i + 1 < parts.length by omega]
      rw [hdn, List.append_assoc, lowOf_append hne1, hlowp i h9]
      exact hf2 (by omega)
    · have hd0 : (parts.map (·.1)).drop (i + 1) = [] := List.drop_eq_nil_of_le (by omega)
      rw [hd0] at hpn ⊢
      simp only [List.flatten_nil, List.nil_append] at hpn ⊢
      exact hk2 hpn
theorem led_all {M : List (List UInt8)} {mn : Nat} {h : Hd} {d : DS} {key : List UInt8} {items : List Itm} {pgs : List Int} (hh : 0 ≤ h.height) (hsrt : Srt items) (hs : Sub M d mn h.height.toNat h.root items pgs) (h0 : lowOf items = []) : ∀ j, j ≤ h.height.toNat → LedTo M mn h d key items j
  | 0, _ => led_start hs h0
  | j + 1, hj => led_step hh (by omega) hsrt (led_all hh hsrt hs h0 j (by omega))
/-- Where a key is led at last. -/
theorem led_end {M : List (List UInt8)} {mn : Nat} {h : Hd} {d : DS} {key : List UInt8} {items : List Itm} {pgs : List Int} (hh : 0 ≤ h.height) (hsrt : Srt items) (hs : Sub M d mn h.height.toNat h.root items pgs) (h0 : lowOf items = []) :
    erTo M h d key h.height.toNat = 0 ∧ ∃ (pre post : List Itm) (low : List UInt8) (base : Int), items = pre ++ (low, base) :: post ∧ pgAt M h d key h.height.toNat = base ∧ lowTo M h d key h.height.toNat = low ∧ highTo M h d key h.height.toNat = lowOf post ∧ bl key low = false ∧ (post ≠ [] → bl key (lowOf post) = true) := by
  obtain ⟨he, pre, seg, post, pg, hi, hsub, hlo, hhi, hk1, hk2⟩ := led_all (key := key) hh hsrt hs h0 h.height.toNat (Nat.le_refl _)
  rw [Nat.sub_self] at hsub
  obtain ⟨⟨low, hseg⟩, _⟩ := hsub
  subst hseg
  exact ⟨he, pre, post, low, _, by rw [hi]; simp, rfl, hlo, hhi, hk1, hk2⟩
end Dsd
/- What an insertion makes of a node's size; that the halves of a node fit. No program in sight. -/
namespace Dsd
theorem front_mid : ∀ {a m c : List UInt8}, bl a m = true → bl m c = true → frontL a c ≤ frontL m c
  | [], m, c, _, _ => by rw [frontL_nil]; exact Nat.zero_le _
  | a :: x, m, [], h, _ => by simp [frontL]
  | a :: x, [], c :: z, h, _ => by rw [bl_nil] at h; cases h
  | a :: x, m :: y, c :: z, h1, h2 => by
    rw [bl_cons] at h1 h2
    simp only [Bool.or_eq_true, decide_eq_true_eq, Bool.and_eq_true, beq_iff_eq] at h1 h2
    unfold frontL
    by_cases hac : a = c
    · subst hac
      have hm : a = m := by
        rcases h1 with h1 | ⟨h1, _⟩
        · rcases h2 with h2 | ⟨h2, _⟩
          · exact absurd (UInt8.lt_trans h1 h2) (UInt8.lt_irrefl _)
          · exact h2.symm
        · exact h1
      subst hm
      simp only [if_true]
      have h1' : bl x y = true := by
        rcases h1 with h1 | ⟨_, h1⟩
        · exact absurd h1 (UInt8.lt_irrefl _)
        · exact h1
      have h2' : bl y z = true := by
        rcases h2 with h2 | ⟨_, h2⟩
        · exact absurd h2 (UInt8.lt_irrefl _)
        · exact h2
      have := front_mid h1' h2'
      omega
    · rw [if_neg hac]; exact Nat.zero_le _
theorem entsN_low : ∀ (b : List UInt8) (L : List Ent), 6 * L.length ≤ entsN b L
  | _, [] => by simp [entsN]
  | b, x :: L => by
    have := entsN_low x.1 L
    simp only [entsN, List.length_cons]
    omega
def lastKey : List UInt8 → List Ent → List UInt8
  | b, [] => b
  | _, x :: L => lastKey x.1 L
theorem entsN_app : ∀ (b : List UInt8) (A B : List Ent), entsN b (A ++ B) = entsN b A + entsN (lastKey b A) B
  | b, [], B => by simp [entsN, lastKey]
  | b, x :: A, B => by
    have := entsN_app x.1 A B
    simp only [List.cons_append, entsN, lastKey, this]
    omega
theorem entsN_head {b c : List UInt8} {K : Nat} : ∀ {L : List Ent}, (∀ x ∈ L, x.1.length ≤ K) → entsN b L ≤ entsN c L + K
  | [], _ => by simp [entsN]
  | x :: L, h => by
    have h1 := h x (by simp)
    have h2 := (frontL_le c x.1).2
    simp only [entsN]
    omega
theorem entsN_clr : ∀ (b : List UInt8) (L : List Ent), entsN b (clrL L) ≤ entsN b L
  | _, [] => Nat.le_refl _
  | b, [x] => by simp only [clrL, entsN, List.length_nil]; omega
  | b, x :: y :: L => by
    have := entsN_clr x.1 (y :: L)
    simp only [clrL, entsN] at this ⊢
    omega
theorem ins_size {bound : List UInt8} {pg : Int} : ∀ {E : List Ent} {b : List UInt8} {i : Nat}, entsB b E = true → i < E.length → (i = 0 → bl b bound = true ∨ b = []) → (0 < i → bl (entAt E (i - 1)).1 bound = true) → ((entAt E i).1 ≠ [] → bl bound (entAt E i).1 = true) →
    entsN b (splE E i bound pg) ≤ entsN b E + 6 + bound.length
  | [], _, i, _, h, _, _, _ => by simp at h
  | x :: E, b, 0, he, _, h0, _, h2 => by
    rw [splE_zero]
    simp only [entsN]
    have h2' : x.1 ≠ [] → bl bound x.1 = true := fun h => h2 (by simpa [entAt] using h)
    have hf : frontL b x.1 ≤ frontL bound x.1 := by
      by_cases hx : x.1 = []
      · rw [hx]
        have := (frontL_le b []).2
        simp at this
        omega
      · rcases h0 rfl with h3 | h3
        · exact front_mid h3 (h2' hx)
        · rw [h3, frontL_nil]; exact Nat.zero_le _
    omega
  | x :: E, b, i + 1, he, hl, _, h1, h2 => by
    rw [splE_succ]
    simp only [entsN]
    obtain ⟨_, _, _, _, h5⟩ := ents_cons he
    have := ins_size (bound := bound) (pg := pg) h5 (i := i) (by simp at hl; omega) (fun hi => by
      subst hi
      left
      have := h1 (by omega)
      simpa [entAt] using this) (fun hi => by
      have := h1 (by omega)
      have e : i + 1 - 1 = (i - 1) + 1 := by omega
      rw [e] at this
      simpa [entAt] using this) (fun hn => by
      have := h2 (by simpa [entAt] using hn)
      simpa [entAt] using this)
    omega
/-- The halves of a node that does not fit. -/
theorem halves_fit {size : Int} {K : Nat} {E : List Ent} (hs : isSizeB size = true) (hK : (K : Int) ≤ size / 16) (hk : ∀ x ∈ E, x.1.length ≤ K) (ht : (6 + entsN [] E : Int) ≤ size + 6 + K) :
    (6 + entsN [] (clrL (E.take ((E.length + 1) / 2))) : Int) ≤ size ∧ (6 + entsN [] (E.drop ((E.length + 1) / 2)) : Int) ≤ size := by
  have e1 := entsN_app [] (E.take ((E.length + 1) / 2)) (E.drop ((E.length + 1) / 2))
  rw [List.take_append_drop] at e1
  have l1 : (E.take ((E.length + 1) / 2)).length = (E.length + 1) / 2 := by rw [List.length_take]; omega
  have l2 : (E.drop ((E.length + 1) / 2)).length = E.length - (E.length + 1) / 2 := List.length_drop
  have a1 := entsN_le (E.take ((E.length + 1) / 2)) [] K (fun x hx => hk x (List.mem_of_mem_take hx))
  have a2 := entsN_le (E.drop ((E.length + 1) / 2)) [] K (fun x hx => hk x (List.mem_of_mem_drop hx))
  have a3 := entsN_low [] (E.take ((E.length + 1) / 2))
  have a4 := entsN_low (lastKey [] (E.take ((E.length + 1) / 2))) (E.drop ((E.length + 1) / 2))
  have a5 := entsN_clr [] (E.take ((E.length + 1) / 2))
  have a6 := entsN_head (b := []) (c := lastKey [] (E.take ((E.length + 1) / 2))) (K := K) (L := E.drop ((E.length + 1) / 2)) (fun x hx => hk x (List.mem_of_mem_drop hx))
  rw [l1] at a1 a3
  rw [l2] at a2 a4
  generalize entsN [] (clrL (E.take ((E.length + 1) / 2))) = u1 at *
  generalize entsN [] (E.take ((E.length + 1) / 2)) = u2 at *
  generalize entsN [] (E.drop ((E.length + 1) / 2)) = u3 at *
  generalize entsN (lastKey [] (E.take ((E.length + 1) / 2))) (E.drop ((E.length + 1) / 2)) = u4 at *
  generalize entsN [] E = u5 at *
  obtain ⟨c, hc⟩ : ∃ c, (E.length + 1) / 2 = c := ⟨_, rfl⟩
  obtain ⟨f, hf⟩ : ∃ f, E.length - (E.length + 1) / 2 = f := ⟨_, rfl⟩
  have hcf : f ≤ c ∧ c ≤ f + 1 := by omega
  rw [hc] at a1 a3
  rw [hf] at a2 a4
  have hsz : size = 128 ∨ size = 256 ∨ size = 512 := by
    unfold isSizeB at hs
    simp at hs
    omega
  have b1 : u2 ≤ c * (6 + size.toNat / 16) := Nat.le_trans a1 (Nat.mul_le_mul_left _ (by omega))
  have b2 : u3 ≤ f * (6 + size.toNat / 16) := Nat.le_trans a2 (Nat.mul_le_mul_left _ (by omega))
  clear a1 a2 hk hs l1 l2
  rcases hsz with rfl | rfl | rfl
  · simp at b1 b2 hK
    omega
  · simp at b1 b2 hK
    omega
  · simp at b1 b2 hK
    omega
end Dsd
/- An area is added to a tree: the nodes on the way, from the lowest on. No program in sight. -/
namespace Dsd
open Go.Proofs.YtolmoknjmdmpgaaGreat (encNE encNS)
theorem encNS_ok {size : Int} {n : Nd} (h : encNE size n = 0) : encNS size n = encN size n := by unfold encNS; rw [if_pos h]
theorem encNE_ok {size : Int} {n : Nd} (h1 : isSizeB size = true) (h2 : nodeB n = true) (h3 : (6 + entsN [] n.ents : Int) ≤ size) : encNE size n = 0 := by
  unfold encNE
  rw [h1, h2, if_neg (by simp), if_neg]
  unfold sizeNd
  rw [if_pos h2]
  omega
theorem fits_iff {size : Int} {n : Nd} (h1 : isSizeB size = true) (h2 : nodeB n = true) : nodeFits size n = decide ((6 + entsN [] n.ents : Int) ≤ size) := by
  unfold nodeFits sizeNd
  rw [h1, h2, if_pos rfl]
  simp
/-- A page that holds a node's bytes is loaded as the node. -/
theorem load_enc {M : List (List UInt8)} {d : DS} {page : Int} {n : Nd} (hp : pageOf M page = (encNS d.interval n, 0)) (he : encNE d.interval n = 0) : loadD M d page n.level = (n, 0) := by
  obtain ⟨h1, h2⟩ := dec_of_enc he
  obtain ⟨g1, _, _⟩ := encNE_zero he
  rw [encNS_ok he] at hp
  have h3 : decE d.interval (encN d.interval n) = 0 := by unfold decE; rw [g1, h1]; simp
  have h4 : decNd d.interval (encN d.interval n) = n := by unfold decNd; rw [if_pos h3, h2]
  unfold loadD
  rw [hp, if_neg (by simp), if_neg (by rw [h3, h4]; simp), h4]
theorem load_same {M M' : List (List UInt8)} {d : DS} {page level : Int} (h : pageOf M' page = pageOf M page) : loadD M' d page level = loadD M d page level := by
  unfold loadD; rw [h]
/-- A tree whose pages are left as they are. -/
theorem sub_frame {M M' : List (List UInt8)} {d : DS} {mn : Nat} : ∀ {l : Nat} {page : Int} {it : List Itm} {pgs : List Int}, Sub M d mn l page it pgs → (∀ q ∈ pgs, pageOf M' q = pageOf M q) → Sub M' d mn l page it pgs
  | 0, _, _, _, h, _ => h
  | l + 1, page, it, pgs, ⟨h0, hm, parts, hl, hi, hp, hs⟩, hf => by
    have e := load_same (d := d) (level := ((l + 1 : Nat) : Int)) (hf page (by rw [hp]; simp))
    refine ⟨by rw [e]; exact h0, by rw [e]; exact hm, parts, by rw [e]; exact hl, hi, hp, fun i hip => ?_⟩
    rw [e]
    obtain ⟨h1, h2⟩ := hs i hip
    refine ⟨sub_frame h1 fun q hq => hf q ?_, h2⟩
    rw [hp]
    refine List.mem_cons_of_mem _ (List.mem_flatten.2 ⟨(parts.getD i ([], [])).2, ?_, hq⟩)
    refine List.mem_map.2 ⟨parts[i], List.getElem_mem hip, by simp [List.getD, hip]⟩
theorem splE_at (E : List Ent) {i : Nat} (hi : i < E.length) (bound : List UInt8) (pg : Int) (j : Nat) :
    entAt (splE E i bound pg) j = if j < i then entAt E j else if j = i then (bound, (entAt E i).2) else if j = i + 1 then ((entAt E i).1, pg) else entAt E (j - 1) := by
  have e1 : (E.take i).length = i := by rw [List.length_take]; omega
  unfold splE entAt
  by_cases h1 : j < i
  · rw [if_pos h1]
    simp [List.getD, List.getElem?_append_left (show j < (E.take i).length by omega), List.getElem?_take, h1]
  · rw [if_neg h1]
    obtain ⟨k, rfl⟩ : ∃ k, j = i + k := ⟨j - i, by omega⟩
    have e2 : (E.take i ++ (bound, (E.getD i ([], 0)).2) :: ((E.getD i ([], 0)).1, pg) :: E.drop (i + 1))[i + k]? = ((bound, (E.getD i ([], 0)).2) :: ((E.getD i ([], 0)).1, pg) :: E.drop (i + 1))[k]? := by
      rw [List.getElem?_append_right (by omega), e1, Nat.add_sub_cancel_left]
    simp only [List.getD] at e2 ⊢
    rw [e2]
    match k with
    | 0 => simp
    | 1 => simp
    | k + 2 =>
      rw [if_neg (by omega), if_neg (by omega)]
      simp only [List.getElem?_cons_succ, List.getElem?_drop]
      congr 2
      omega
/-- The entries of a node in which one has become two. -/
theorem ents_ins {bound : List UInt8} {pg : Int} (hp : pageB pg = true) (b0 : bound ≠ []) (b32 : bound.length ≤ 32) :
    ∀ {E : List Ent} {b : List UInt8} {i : Nat}, entsB b E = true → i < E.length → (i = 0 → bl b bound = true) → (0 < i → bl (entAt E (i - 1)).1 bound = true) → ((entAt E i).1 ≠ [] → bl bound (entAt E i).1 = true) → entsB b (splE E i bound pg) = true
  | [], _, i, _, h, _, _, _ => by simp at h
  | x :: E, b, 0, he, _, h0, _, h2 => by
    obtain ⟨e1, e2, e3, e4, e5⟩ := ents_cons he
    rw [splE_zero]
    exact ents_mk e1 ⟨fun h => absurd h b0, fun h => by cases h⟩ b32 (fun _ => h0 rfl) (ents_mk hp e2 e3 (fun hE => h2 (by
      have : x.1 ≠ [] := fun h => hE (e2.1 h)
      simpa [entAt] using this) |> fun h => by simpa [entAt] using h) e5)
  | x :: E, b, i + 1, he, hl, _, h1, h2 => by
    obtain ⟨e1, e2, e3, e4, e5⟩ := ents_cons he
    rw [splE_succ]
    have hE : E ≠ [] := fun h => by rw [h] at hl; simp at hl
    refine ents_mk e1 ⟨fun h => absurd (e2.1 h) hE, fun h => absurd h (splE_ne _ _ _ _)⟩ e3 (fun _ => e4 hE) ?_
    refine ents_ins hp b0 b32 e5 (by simp at hl; omega) (fun hi => ?_) (fun hi => ?_) (fun hn => ?_)
    · subst hi
      have := h1 (by omega)
      simpa [entAt] using this
    · have := h1 (by omega)
      have e : i + 1 - 1 = (i - 1) + 1 := by omega
      rw [e] at this
      simpa [entAt] using this
    · have := h2 (by simpa [entAt] using hn)
      simpa [entAt] using this
/-- The steps of the way of a key, the lowest first. -/
abbrev Stp := Int × Nat × Nd
def rootN (h : Hd) (b : List UInt8) (p : Int) : Nd := ⟨h.height + 1, 0, [(b, h.root), ([], p)]⟩
/-- An area or node is added behind a step. -/
def addGo (d : DS) : List Stp → Hd → List Wr → List UInt8 → Int → Hd × List Wr × Int
  | [], h, out, b, p =>
    if h.height = 6 then (h, out, 8)
    else ({ h with height := h.height + 1, fin := h.fin + 1, root := h.fin + 1 }, out ++ [(h.fin + 1, encNS d.interval (rootN h b p))], encNE d.interval (rootN h b p))
  | s :: rest, h, out, b, p =>
    let n := insertNd s.2.2 (s.2.1 : Int) b p
    if n.2 ≠ 0 then (h, out, n.2)
    else if nodeFits d.interval n.1 then (h, out ++ [(s.1, encNS d.interval n.1)], encNE d.interval n.1)
    else
      let q := splitNd n.1
      if q.2.2.2 ≠ 0 then (h, out, q.2.2.2)
      else
        let left : Nd := { q.1 with next := h.fin + 1 }
        if encNE d.interval left ≠ 0 then ({ h with fin := h.fin + 1 }, out ++ [(s.1, encNS d.interval left)], encNE d.interval left)
        else if encNE d.interval q.2.1 ≠ 0 then ({ h with fin := h.fin + 1 }, out ++ [(s.1, encNS d.interval left), (h.fin + 1, encNS d.interval q.2.1)], encNE d.interval q.2.1)
        else addGo d rest { h with fin := h.fin + 1 } (out ++ [(s.1, encNS d.interval left), (h.fin + 1, encNS d.interval q.2.1)]) q.2.2.1 (h.fin + 1)
def stpAt (M : List (List UInt8)) (h : Hd) (d : DS) (key : List UInt8) (j : Nat) : Stp := (pgAt M h d key j, findNd (ndAt M h d key j).ents key, ndAt M h d key j)
def stepsTo (M : List (List UInt8)) (h : Hd) (d : DS) (key : List UInt8) : Nat → List Stp
  | 0 => []
  | j + 1 => stpAt M h d key j :: stepsTo M h d key j
/-- An area lies behind the one that its bound is led to. -/
def insIt (b : List UInt8) (base : Int) : List Itm → List Itm
  | [] => [(b, base)]
  | x :: L => if bl b x.1 = true then (b, base) :: x :: L else x :: insIt b base L
theorem insIt_app {b : List UInt8} {base : Int} : ∀ {A B : List Itm}, A ≠ [] → (∀ x ∈ A, bl b x.1 = false) → insIt b base (A ++ B) = A ++ insIt b base B
  | [], _, h, _ => absurd rfl h
  | [x], B, _, h => by
    simp only [List.cons_append, List.nil_append, insIt]
    rw [h x (by simp)]
    simp
  | x :: y :: A, B, _, h => by
    have := insIt_app (b := b) (base := base) (A := y :: A) (B := B) (by simp) (fun z hz => h z (by simp [hz]))
    simp only [List.cons_append, insIt] at this ⊢
    rw [h x (by simp), this]
    simp
theorem insIt_before {b : List UInt8} {base : Int} : ∀ {A B : List Itm}, (∃ x ∈ A, bl b x.1 = true) → insIt b base (A ++ B) = insIt b base A ++ B
  | [], _, ⟨x, h, _⟩ => by cases h
  | x :: A, B, h => by
    simp only [List.cons_append, insIt]
    by_cases hx : bl b x.1 = true
    · rw [if_pos hx, if_pos hx]; rfl
    · rw [if_neg hx, if_neg hx]
      obtain ⟨y, hy, hb⟩ := h
      rcases List.mem_cons.1 hy with rfl | hy
      · exact absurd hb hx
      · rw [insIt_before ⟨y, hy, hb⟩]; rfl
theorem insIt_lt {b : List UInt8} {base : Int} {A B : List Itm} (h : ∀ x ∈ B, bl b x.1 = true) : insIt b base (A ++ B) = insIt b base A ++ B := by
  induction A with
  | nil =>
    cases B with
    | nil => rfl
    | cons y B => simp only [List.nil_append, insIt, h y (by simp), if_true]; rfl
  | cons x A ih =>
    simp only [List.cons_append, insIt]
    by_cases hx : bl b x.1 = true
    · rw [if_pos hx, if_pos hx]; rfl
    · rw [if_neg hx, if_neg hx, ih]; rfl
theorem insIt_mem {b : List UInt8} {base : Int} {x : Itm} : ∀ {L : List Itm}, x ∈ insIt b base L ↔ x = (b, base) ∨ x ∈ L
  | [] => by simp [insIt]
  | y :: L => by
    simp only [insIt]
    split
    · simp
    · simp only [List.mem_cons, insIt_mem (L := L)]
      constructor
      · rintro (h | h | h)
        · exact .inr (.inl h)
        · exact .inl h
        · exact .inr (.inr h)
      · rintro (h | h | h)
        · exact .inr (.inl h)
        · exact .inl h
        · exact .inr (.inr h)
theorem insIt_srt {b : List UInt8} {base : Int} : ∀ {L : List Itm}, Srt L → (∀ x ∈ L, x.1 ≠ b) → Srt (insIt b base L)
  | [], _, _ => List.pairwise_singleton _ _
  | x :: L, h, hn => by
    obtain ⟨h1, h2⟩ := List.pairwise_cons.1 h
    simp only [insIt]
    split
    · rename_i hb
      refine List.pairwise_cons.2 ⟨fun y hy => ?_, h⟩
      rcases List.mem_cons.1 hy with rfl | hy
      · exact hb
      · exact bl_trans hb (h1 y hy)
    · rename_i hb
      refine List.pairwise_cons.2 ⟨fun y hy => ?_, insIt_srt h2 fun y hy => hn y (by simp [hy])⟩
      rcases insIt_mem.1 hy with rfl | hy
      · exact bl_of_not (by simpa using hb) (fun e => hn x (by simp) e.symm)
      · exact h1 y hy
end Dsd
