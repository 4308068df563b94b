/- A region that draws its order, some of whose operations ('pivots': an append into spare room) turn blocks that the region itself has made: ONE walk of the lexical order serves every order. What a pivot may spoil is told ahead: the slots whose facts it ends. Over any program. -/
import Derived.Test.YtmnpappbacndlaaGreatDoorMono
set_option linter.unusedSimpArgs false
set_option linter.unusedVariables false
namespace Dsd
open Go Go.RowKit

/-- A pivot (its place), and the places and slots whose facts it ends. -/
abbrev Kills := List (Nat × List (Nat × Tmp))
def killB (K : Kills) (i j : Nat) : Bool := K.any fun x => x.1 == i && x.2.any fun y => y.1 == j
def pivB (K : Kills) (i : Nat) : Bool := K.any fun x => x.1 == i
/-- What a pivot does to the world. -/
abbrev Rel := World → World → Prop
/-- A fact that stands whatever the pivots do. -/
def Fact.strong (K : Kills) (R : Nat → Rel) (f : Fact) : Prop := ∀ i, pivB K i = true → ∀ x w w', R i w w' → f x w → f x w'
theorem Is.strong (K : Kills) (R : Nat → Rel) (v : Value) : (Is v).strong K R := fun _ _ _ _ _ _ h => h
def Any : Fact := fun _ _ => True
theorem Any.stable : Any.stable := fun _ _ _ _ h => h

section
variable {P : Program} {ops : Array Oper} {md : Region.Mode} {Q : Exit → Act → World → Prop} {w0 : World} {n : Nat} {ds : List Deferred} {K : Kills} {R : Nat → Rel} {G : Nat → Nat → Fact}

/-- How the world may turn in a step. -/
def StepW (K : Kills) (R : Nat → Rel) (i : Nat) : Rel := fun w w' => if pivB K i then R i w w' else Ext w w'
/-- What a pivot is worth: the new facts on the slots that it turns. -/
def Turned (K : Kills) (G : Nat → Nat → Fact) (i : Nat) (a : Act) (w : World) : Prop := ∀ x ∈ K, x.1 = i → ∀ y ∈ x.2, G i y.1 (a.tmps.getD y.2 undef) w
def StepP (P : Program) (ops : Array Oper) (Q : Exit → Act → World → Prop) (K : Kills) (R : Nat → Rel) (G : Nat → Nat → Fact) (i : Nat) (f : Fact) (o : Oper) (a : Act) (w : World) : Prop :=
  if Region.wanted o (yielded ops a.tmps) then ∀ C : Act → World → Prop, (∀ v w', StepW K R i w w' → f v w' → Turned K G i a w' → C (a.put o.dst v) w') → o.wp P a w C Q else (f undef w ∧ pivB K i = false)

variable {S : Nat → Nat → Fact} {F : Nat → Fact}
structure VInv (md : Region.Mode) (ops : Array Oper) (w0 : World) (n : Nat) (ds : List Deferred) (K : Kills) (G : Nat → Nat → Fact) (S : Nat → Nat → Fact) (F : Nat → Fact) (listed : Array Bool) (a : Act) (w : World) : Prop where
  ext : Ext w0 w
  defers : a.defers = ds
  size : a.tmps.size = n
  done : ∀ j o d, ops[j]? = some o → o.dst = some d → listed.getD j false = true → (∀ i, killB K i j = true → listed.getD i false = false) → F j (a.tmps.getD d undef) w
  turn : ∀ i j o d, ops[j]? = some o → o.dst = some d → killB K i j = true → listed.getD i false = true → listed.getD j false = true → G i j (a.tmps.getD d undef) w
  wait : ∀ j o d, ops[j]? = some o → o.dst = some d → listed.getD j false = false → S 0 d (a.tmps.getD d undef) w
  other : ∀ d, (∀ (j : Nat) (o : Oper), ops[j]? = some o → o.dst ≠ some d) → S 0 d (a.tmps.getD d undef) w
  closed : ∀ j o e, ops[j]? = some o → listed.getD j false = true → e ∈ o.after → Region.binds md e = true → listed.getD e.on false = true

/-- Where operation k has come up, i has. -/
theorem VInv.must {listed : Array Bool} {a : Act} {w : World} (h : VInv md ops w0 n ds K G S F listed a w) {i k : Nat} {ok : Oper} (hk : ops[k]? = some ok) (hl : listed.getD k false = true) (hm : Must md ops i k) : listed.getD i false = true :=
  hm ok listed hk h.closed fun e he hb => h.closed k ok e hk hl he hb

def ReadOk (md : Region.Mode) (ops : Array Oper) (K : Kills) : Prop :=
  ∀ (i j k : Nat) (oi oj : Oper) (t : Tmp), ops[i]? = some oi → ops[j]? = some oj → oj.dst = some t → t ∈ oi.looksAt ops → j < i → killB K k j = true → (k = i ∨ Must md ops i k) ∧ ∃ ok, ops[k]? = some ok

theorem preads_of (hnext : ∀ i o, ops[i]? = some o → S (i + 1) = upd (S i) o.dst (F i)) (hB : orderB md ops n = true) (hR : ReadOk md ops K) {listed : Array Bool} {a : Act} {w : World} (h : VInv md ops w0 n ds K G S F listed a w)
    {i : Nat} {o : Oper} (ho : ops[i]? = some o) (hr : i ∈ Region.ready md ops listed) (hls : listed.size = ops.size) : Reads ops (S i) o a w := by
  intro t ht
  have hil := (Array.getElem?_eq_some_iff.1 ho).1
  obtain ⟨hun, o', ho', hall⟩ := mem_ready.1 hr
  obtain rfl := Option.some.inj (ho.symm.trans ho')
  have hunf : listed.getD i false = false := by
    have h1 : i < listed.size := by omega
    simp [h1] at hun ⊢; exact hun
  by_cases hw : ∃ (j : Nat) (oj : Oper), ops[j]? = some oj ∧ oj.dst = some t
  · obtain ⟨j, oj, hj, hd⟩ := hw
    have hspec := (orderB_spec hB ho hj hd).2.2 ht
    have hjl := (Array.getElem?_eq_some_iff.1 hj).1
    by_cases hji : j < i
    · rw [S_writer hnext hB hj hd i (by omega) hji]
      obtain ⟨e, he, heo, heb⟩ := hspec.1 hji
      refine h.done j oj t hj hd (by rw [← heo]; exact hall e he heb) fun k hk => ?_
      obtain ⟨hm, ok, hok⟩ := hR i j k o oj t ho hj hd ht hji hk
      rcases hm with rfl | hm
      · exact hunf
      · cases hlk : listed.getD k false with
        | false => rfl
        | true =>
          have := h.must hok hlk hm
          rw [hunf] at this; cases this
    · rw [S_other hnext t i (by omega) (fun k ok hk hok hkd => (orderB_spec hB hok hj hd).2.1 (by omega) hkd)]
      refine h.wait j oj t hj hd ?_
      by_cases hij : i = j
      · subst hij; exact hunf
      · obtain ⟨e, he, heo, heb⟩ := hspec.2 (by omega)
        cases hlj : listed.getD j false with
        | false => rfl
        | true =>
          have := h.closed j oj e hj hlj he heb
          rw [heo, hunf] at this
          cases this
  · rw [S_other hnext t i (by omega) (fun k ok _ hok hkd => hw ⟨k, ok, hok, hkd⟩)]
    exact h.other t (fun k ok hok hkd => hw ⟨k, ok, hok, hkd⟩)

/-- The slots that a pivot turns are those of the operations that it names. -/
def SlotOk (ops : Array Oper) (K : Kills) : Prop := ∀ x ∈ K, ∀ y ∈ x.2, ∃ o, ops[y.1]? = some o ∧ o.dst = some y.2
theorem killB_mem {K : Kills} {i j : Nat} (h : killB K i j = true) : ∃ x ∈ K, x.1 = i ∧ ∃ y ∈ x.2, y.1 = j := by
  unfold killB at h
  rw [List.any_eq_true] at h
  obtain ⟨x, hx, h⟩ := h
  simp at h
  obtain ⟨h1, y, h2⟩ := h
  exact ⟨x, hx, h1, (j, y), h2, rfl⟩
/-- What the facts owe. -/
structure Owes (md : Region.Mode) (ops : Array Oper) (w0 : World) (K : Kills) (R : Nat → Rel) (G : Nat → Nat → Fact) (F : Nat → Fact) : Prop where
  below : ∀ i w w', R i w w' → Below w0.heap.size w w'
  keep : ∀ i j, pivB K i = true → i ≠ j → killB K i j = false → j < ops.size → Must md ops i j ∨ ∀ x w w', R i w w' → F j x w → F j x w'
  gstable : ∀ i j, (G i j).stable
  gkeep : ∀ p j i, killB K p j = true → pivB K i = true → i ≠ p → ∀ x w w', R i w w' → G p j x w → G p j x w'
  gmust : ∀ p j, killB K p j = true → G p j = Any ∨ Must md ops j p

theorem VInv.put (hF : ∀ i, (F i).stable) (hS : ∀ t, ∃ v, S 0 t = Is v) (hB : orderB md ops n = true) (hO : Owes md ops w0 K R G F) (hs : SlotOk ops K)
    {listed : Array Bool} {a : Act} {w w' : World} (h : VInv md ops w0 n ds K G S F listed a w) {i : Nat} {o : Oper} (ho : ops[i]? = some o)
    (hr : i ∈ Region.ready md ops listed) (hls : listed.size = ops.size) {v : Value} (he : StepW K R i w w') (hv : F i v w') (ht : Turned K G i a w') : VInv md ops w0 n ds K G S F (listed.setIfInBounds i true) (a.put o.dst v) w' := by
  have hil := (Array.getElem?_eq_some_iff.1 ho).1
  obtain ⟨hun, o', ho', hall⟩ := mem_ready.1 hr
  obtain rfl := Option.some.inj (ho.symm.trans ho')
  have hunf : listed.getD i false = false := by
    have h1 : i < listed.size := by omega
    simp [h1] at hun ⊢; exact hun
  have hext : Ext w0 w' := by
    unfold StepW at he
    split at he
    · exact Ext.trans' h.ext (hO.below i w w' he)
    · exact h.ext.trans he
  refine ⟨hext, by rw [defers_put]; exact h.defers, by rw [size_put]; exact h.size, ?_, ?_, ?_, ?_, ?_⟩
  · intro j oj d hj hd hl hk
    by_cases hij : i = j
    · subst hij
      obtain rfl := Option.some.inj (ho.symm.trans hj)
      rw [hd, getD_put_same _ _ _ (by rw [h.size]; exact (orderB_spec hB ho ho hd).1)]
      exact hv
    · rw [getD_put _ _ _ _ ((orderB_spec hB ho hj hd).2.1 hij)]
      rw [getD_set_ne false hij] at hl
      have h1 : F j (a.tmps.getD d undef) w := h.done j oj d hj hd hl fun k hkk => by
        have h2 := hk k hkk
        by_cases hik : i = k
        · subst hik; exact hunf
        · rwa [getD_set_ne false hik] at h2
      by_cases hp : pivB K i = true
      · have hnk : killB K i j = false := by
          cases hkk : killB K i j with
          | false => rfl
          | true =>
            have h2 := hk i hkk
            have h3 : i < listed.size := by omega
            simp [h3] at h2
        rcases hO.keep i j hp hij hnk (Array.getElem?_eq_some_iff.1 hj).1 with hm | hs
        · have := h.must hj hl hm
          rw [hunf] at this; cases this
        · unfold StepW at he
          rw [if_pos hp] at he
          exact hs _ _ _ he h1
      · unfold StepW at he
        rw [if_neg hp] at he
        exact hF j _ _ _ he h1
  · intro p j oj d hj hd hk hlp hlj
    by_cases hpi : i = p
    · subst hpi
      obtain ⟨x, hx, hxi, y, hy, hyj⟩ := killB_mem hk
      by_cases hij : i = j
      · subst hij
        rcases hO.gmust i i hk with hA | hM
        · rw [hA]; trivial
        · have := hM o listed ho h.closed (fun e he hb => hall e he hb)
          rw [hunf] at this; cases this
      · rw [getD_put _ _ _ _ ((orderB_spec hB ho hj hd).2.1 hij)]
        obtain ⟨oy, hoy, hdy⟩ := hs x hx y hy
        rw [hyj, hj] at hoy
        obtain rfl := Option.some.inj hoy
        rw [hd] at hdy
        have := ht x hx hxi y hy
        rw [← Option.some.inj hdy, hyj] at this
        exact this
    · rw [getD_set_ne false hpi] at hlp
      by_cases hij : i = j
      · subst hij
        rcases hO.gmust p i hk with hA | hM
        · rw [hA]; trivial
        · obtain ⟨x, hx, hxp, y, hy, hyj⟩ := killB_mem hk
          by_cases hpl : p < ops.size
          · have := h.must (Array.getElem?_eq_getElem hpl) hlp hM
            rw [hunf] at this; cases this
          · have hp2 : ¬ p < listed.size := by omega
            simp [hp2] at hlp
      · rw [getD_put _ _ _ _ ((orderB_spec hB ho hj hd).2.1 hij)]
        rw [getD_set_ne false hij] at hlj
        have h1 := h.turn p j oj d hj hd hk hlp hlj
        unfold StepW at he
        split at he
        · rename_i hp
          exact hO.gkeep p j i hk hp hpi _ _ _ he h1
        · exact hO.gstable p j _ _ _ he h1
  · intro j oj d hj hd hl
    by_cases hij : i = j
    · subst hij
      have h1 : i < listed.size := by omega
      simp [h1] at hl
    · rw [getD_put _ _ _ _ ((orderB_spec hB ho hj hd).2.1 hij)]
      rw [getD_set_ne false hij] at hl
      have := h.wait j oj d hj hd hl
      obtain ⟨v0, hv0⟩ := hS d
      rw [hv0] at this ⊢
      exact this
  · intro d hd
    rw [getD_put _ _ _ _ (hd i o ho)]
    have := h.other d hd
    obtain ⟨v0, hv0⟩ := hS d
    rw [hv0] at this ⊢
    exact this
  · intro j oj e hj hl hea heb
    by_cases hij : i = j
    · subst hij
      obtain rfl := Option.some.inj (ho.symm.trans hj)
      exact getD_set_true (hall e hea heb)
    · rw [getD_set_ne false hij] at hl
      exact getD_set_true (h.closed j oj e hj hl hea heb)

theorem wpAny_piv (init tail : List Oper) (hF' : forcedB md (init ++ tail) init.length = true) (hF : ∀ i, (F i).stable) (hS : ∀ t, ∃ v, S 0 t = Is v) (hB : orderB md (init ++ tail).toArray n = true)
    (hO : Owes md (init ++ tail).toArray w0 K R G F) (hs : SlotOk (init ++ tail).toArray K) (hR : ReadOk md (init ++ tail).toArray K)
    (hnext : ∀ i o, (init ++ tail).toArray[i]? = some o → S (i + 1) = upd (S i) o.dst (F i))
    (hstep : ∀ i o, i < init.length → (init ++ tail).toArray[i]? = some o → ∀ a w, Ext w0 w → Reads (init ++ tail).toArray (S i) o a w → StepP P (init ++ tail).toArray Q K R G i (F i) o a w)
    (hend : ∀ a w, Ext w0 w → a.defers = ds → a.tmps.size = n → (∀ t, t < n → (∀ i j o, killB K i j = true → (init ++ tail).toArray[j]? = some o → o.dst ≠ some t) → S init.length t (a.tmps.getD t undef) w) →
      (∀ i j o t, killB K i j = true → i < init.length → j < init.length → (init ++ tail).toArray[j]? = some o → o.dst = some t → G i j (a.tmps.getD t undef) w) → wpList P (init ++ tail).toArray Q tail a w) :
    ∀ (fuel : Nat) (listed : Array Bool) (a : Act) (w : World), listed.size = (init ++ tail).length → (List.range init.length).countP (fun i => !listed.getD i false) + tail.length ≤ fuel → (∀ i, init.length ≤ i → listed.getD i false = false) →
      VInv md (init ++ tail).toArray w0 n ds K G S F listed a w → wpAny P md (init ++ tail).toArray Q fuel listed a w := by
  intro fuel
  have start : ∀ (fuel : Nat) (listed : Array Bool) (a : Act) (w : World), listed.size = (init ++ tail).length → tail.length ≤ fuel → (∀ i, i < init.length → listed.getD i false = true) → (∀ i, init.length ≤ i → listed.getD i false = false) →
      VInv md (init ++ tail).toArray w0 n ds K G S F listed a w → wpAny P md (init ++ tail).toArray Q fuel listed a w := by
    intro fuel listed a w hls hfu hall hnone h
    refine wpAny_tail init tail hB hF' tail.length tail fuel listed a w rfl ⟨[], by simp, fun i => ?_⟩ hls hfu ?_
    · by_cases hi : i < init.length
      · rw [hall i hi]; simp [hi]
      · rw [hnone i (by omega)]; simp [hi]
    · refine hend a w h.ext h.defers h.size (fun t ht hkill => ?_) (fun i j o t hk hi hj ho hd => h.turn i j o t ho hd hk (hall i hi) (hall j hj))
      by_cases hw : ∃ (j : Nat) (oj : Oper), (init ++ tail).toArray[j]? = some oj ∧ oj.dst = some t
      · obtain ⟨j, oj, hj, hd⟩ := hw
        have hjl := (Array.getElem?_eq_some_iff.1 hj).1
        by_cases hji : j < init.length
        · rw [S_writer hnext hB hj hd init.length (by simp) hji]
          exact h.done j oj t hj hd (hall j hji) fun i hi => absurd hd (hkill i j oj hi hj)
        · rw [S_other hnext t init.length (by simp) (fun k ok hk hok hkd => (orderB_spec hB hok hj hd).2.1 (by omega) hkd)]
          exact h.wait j oj t hj hd (hnone j (by omega))
      · rw [S_other hnext t init.length (by simp) (fun k ok _ hok hkd => hw ⟨k, ok, hok, hkd⟩)]
        exact h.other t (fun k ok hok hkd => hw ⟨k, ok, hok, hkd⟩)
  induction fuel with
  | zero =>
    intro listed a w hls hc hnone h
    refine start 0 listed a w hls (by omega) (fun i hi => ?_) hnone h
    have h0 : (List.range init.length).countP (fun i => !listed.getD i false) = 0 := by omega
    rw [List.countP_eq_zero] at h0
    have := h0 i (by simpa using hi)
    simpa using this
  | succ fuel ih =>
    intro listed a w hls hc hnone h
    by_cases hallB : ∀ i, i < init.length → listed.getD i false = true
    · exact start (fuel + 1) listed a w hls (by omega) hallB hnone h
    · have hready : ∀ i ∈ Region.ready md (init ++ tail).toArray listed, i < init.length := by
        intro i hi
        obtain ⟨hun, oi, hoi, hall⟩ := mem_ready.1 hi
        have hil := (Array.getElem?_eq_some_iff.1 hoi).1
        by_cases hlt : i < init.length
        · exact hlt
        · exfalso
          apply hallB
          intro k hk
          exact forcedB_spec hB hF' (by simpa using hil) (by omega) (by omega) oi listed hoi h.closed hall
      refine ⟨fun hr => ?_, fun i hi => ?_⟩
      · exfalso
        apply hallB
        have := all_listed hB hr (by simpa using hls) (init ++ tail).length
        exact fun i hi => this i (by simp; omega) (by simp; omega)
      · have hii := hready i hi
        obtain ⟨hun, o, ho, _⟩ := mem_ready.1 hi
        have hil := (Array.getElem?_eq_some_iff.1 ho).1
        have h1 : i < listed.size := by simp at hil hls; omega
        have hcnt : (List.range init.length).countP (fun j => !(listed.setIfInBounds i true).getD j false) + tail.length ≤ fuel := by
          have := countP_lt (fun j => !listed.getD j false) (fun j => !(listed.setIfInBounds i true).getD j false) i (List.range init.length) (fun x _ hx => by
            by_cases hxi : i = x
            · subst hxi; simp [h1] at hx
            · rwa [getD_set_ne false hxi] at hx) (by simpa using hii) (by simp [h1] at hun ⊢; exact hun) (by simp [h1])
          omega
        have hst := hstep i o hii ho a w h.ext (preads_of hnext hB hR h ho hi (by simpa using hls))
        have hnone' : ∀ j, init.length ≤ j → (listed.setIfInBounds i true).getD j false = false := fun j hj => by
          rw [getD_set_ne false (by omega)]; exact hnone j hj
        unfold StepP at hst
        unfold wpOp
        simp only [ho]
        split
        · rename_i hw
          rw [if_pos hw] at hst
          exact .inl (hst _ fun v w' he hv ht => ih _ _ _ (by simpa using hls) hcnt hnone' (h.put hF hS hB hO hs ho hi (by simpa using hls) he hv ht))
        · rename_i hw
          rw [if_neg hw] at hst
          exact ih _ _ _ (by simpa using hls) hcnt hnone' (h.put hF hS hB hO hs ho hi (by simpa using hls) (by unfold StepW; rw [hst.2]; exact Ext.refl w) hst.1 (fun x hx hxi => by
            have : pivB K i = true := by unfold pivB; rw [List.any_eq_true]; exact ⟨x, hx, by simp [hxi]⟩
            rw [hst.2] at this; cases this))
end

/-! ### The checks on a region, and the walk as a list of facts -/
def mustB (md : Region.Mode) (l : List Oper) (i k : Nat) : Bool := ((masks md l []).getD k 0).testBit i
theorem mustB_must {md : Region.Mode} {l : List Oper} {n : Nat} (hB : orderB md l.toArray n = true) {i k : Nat} (h : mustB md l i k = true) : Must md l.toArray i k :=
  masks_must l.toArray hB l [] (by simp) (by simp) k i h
/-- Who reads a slot whose fact a pivot ends comes up ahead of the pivot, or is the pivot. -/
def readB (md : Region.Mode) (l : List Oper) (K : Kills) : Bool :=
  (List.range l.length).all fun i => K.all fun x => x.2.all fun y => !decide (y.1 < i) || !((l.getD i default).looksAt l.toArray).contains y.2 || x.1 == i || mustB md l i x.1
def slotB (l : List Oper) (K : Kills) : Bool := K.all fun x => decide (x.1 < l.length) && x.2.all fun y => decide (y.1 < l.length) && (l.getD y.1 default).dst == some y.2
/-- The fact that operation k lays is ended by each pivot, or laid behind it. -/
def condB (md : Region.Mode) (l : List Oper) (K : Kills) (k : Nat) : Bool := K.all fun x => x.1 == k || x.2.any (fun y => y.1 == k) || mustB md l x.1 k
theorem slotB_ok {l : List Oper} {K : Kills} (hs : slotB l K = true) : SlotOk l.toArray K := by
  intro x hx y hy
  unfold slotB at hs
  rw [List.all_eq_true] at hs
  have h1 := hs x hx
  simp only [Bool.and_eq_true, decide_eq_true_eq, List.all_eq_true, beq_iff_eq] at h1
  obtain ⟨h4, h5⟩ := h1.2 y hy
  refine ⟨l[y.1], by simp [h4], ?_⟩
  have e1 : l.getD y.1 default = l[y.1] := by simp [List.getD, h4]
  rw [e1] at h5
  exact h5
theorem readB_ok {md : Region.Mode} {l : List Oper} {n : Nat} {K : Kills} (hB : orderB md l.toArray n = true) (h : readB md l K = true) (hs : slotB l K = true) : ReadOk md l.toArray K := by
  intro i j k oi oj t hi hj hd ht hji hk
  obtain ⟨x, hx, rfl, y, hy, rfl⟩ := killB_mem hk
  unfold slotB at hs
  rw [List.all_eq_true] at hs
  have h1 := hs x hx
  simp only [Bool.and_eq_true, decide_eq_true_eq, List.all_eq_true, beq_iff_eq] at h1
  obtain ⟨h2, h3⟩ := h1
  obtain ⟨h4, h5⟩ := h3 y hy
  have hj' : l[y.1]? = some oj := by simpa using hj
  have hi' : l[i]? = some oi := by simpa using hi
  have e1 : l.getD y.1 default = oj := by simp [List.getD, hj']
  have e2 : l.getD i default = oi := by simp [List.getD, hi']
  rw [e1, hd] at h5
  obtain rfl := Option.some.inj h5
  have hil := (List.getElem?_eq_some_iff.1 hi').1
  refine ⟨?_, l[x.1], by simp [h2]⟩
  unfold readB at h
  rw [List.all_eq_true] at h
  have h6 := h i (by simpa using hil)
  rw [List.all_eq_true] at h6
  have h7 := h6 x hx
  rw [List.all_eq_true] at h7
  have h8 := h7 y hy
  rw [e2] at h8
  simp only [Bool.or_eq_true, Bool.not_eq_true', decide_eq_false_iff_not, beq_iff_eq] at h8
  rcases h8 with ((h8 | h8) | h8) | h8
  · exact absurd hji h8
  · rw [List.contains_iff_mem.2 ht] at h8; cases h8
  · exact .inl h8
  · exact .inr (mustB_must hB h8)
theorem condB_ok {md : Region.Mode} {l : List Oper} {n : Nat} {K : Kills} (hB : orderB md l.toArray n = true) {i j : Nat} (h : condB md l K j = true) (hp : pivB K i = true) (hij : i ≠ j) (hk : killB K i j = false) : Must md l.toArray i j := by
  unfold pivB at hp
  rw [List.any_eq_true] at hp
  obtain ⟨x, hx, h1⟩ := hp
  obtain rfl : x.1 = i := by simpa using h1
  unfold condB at h
  rw [List.all_eq_true] at h
  have h2 := h x hx
  simp only [Bool.or_eq_true, beq_iff_eq] at h2
  rcases h2 with (h2 | h2) | h2
  · exact absurd h2 hij
  · unfold killB at hk
    rw [List.any_eq_false] at hk
    have := hk x hx
    simp [h2] at this
  · exact mustB_must hB h2

section
variable {P : Program} {ops : Array Oper} {Q : Exit → Act → World → Prop} {w0 : World} {n : Nat} {ds : List Deferred} {tail : List Oper} {K : Kills} {R : Nat → Rel} {G : Nat → Nat → Fact} {cond : Nat → Bool}
def wpPT (P : Program) (ops : Array Oper) (Q : Exit → Act → World → Prop) (w0 : World) (n : Nat) (ds : List Deferred) (tail : List Oper) (K : Kills) (R : Nat → Rel) (G : Nat → Nat → Fact) (cond : Nat → Bool) : Nat → List Oper → (Nat → Fact) → Prop
  | _, [], S => ∀ a w, Ext w0 w → a.defers = ds → a.tmps.size = n → (∀ t, t < n → (∀ x ∈ K, ∀ y ∈ x.2, y.2 ≠ t) → S t (a.tmps.getD t undef) w) → (∀ x ∈ K, ∀ y ∈ x.2, G x.1 y.1 (a.tmps.getD y.2 undef) w) → wpList P ops Q tail a w
  | k, o :: rest, S => ∃ f : Fact, f.stable ∧ (cond k = true ∨ f.strong K R) ∧ (∀ a w, Ext w0 w → Reads ops S o a w → StepP P ops Q K R G k f o a w) ∧ wpPT P ops Q w0 n ds tail K R G cond (k + 1) rest (upd S o.dst f)

theorem wpPT_steps : ∀ (l : List Oper) (k : Nat) (S0 : Nat → Fact), (∀ j, j < l.length → l[j]? = ops[k + j]?) → wpPT P ops Q w0 n ds tail K R G cond k l S0 →
    ∃ (S : Nat → Nat → Fact) (F : Nat → Fact), S k = S0 ∧ (∀ i, (F i).stable) ∧ (∀ i, k ≤ i → cond i = true ∨ (F i).strong K R) ∧ (∀ i o, k ≤ i → i < k + l.length → ops[i]? = some o → ∀ a w, Ext w0 w → Reads ops (S i) o a w → StepP P ops Q K R G i (F i) o a w) ∧
      (∀ i o, k ≤ i → ops[i]? = some o → S (i + 1) = upd (S i) o.dst (F i)) ∧
      (∀ a w, Ext w0 w → a.defers = ds → a.tmps.size = n → (∀ t, t < n → (∀ x ∈ K, ∀ y ∈ x.2, y.2 ≠ t) → S (k + l.length) t (a.tmps.getD t undef) w) → (∀ x ∈ K, ∀ y ∈ x.2, G x.1 y.1 (a.tmps.getD y.2 undef) w) → wpList P ops Q tail a w)
  | [], k, S0, _, h => by
    refine ⟨fun i => contS ops S0 k (i - k), fun _ => Is undef, by simp [contS], fun _ => Is.stable _, fun _ _ => .inr (Is.strong _ _ _), ?_, ?_, ?_⟩
    · intro i o hi hi2 ho; simp at hi2; omega
    · intro i o hi ho
      have e : i + 1 - k = (i - k) + 1 := by omega
      show contS ops S0 k (i + 1 - k) = _
      rw [e, contS, show k + (i - k) = i by omega, ho]
    · have e : contS ops S0 k (k + ([] : List Oper).length - k) = S0 := by simp [contS]
      intro a w h1 h2 h3 h4 h5
      refine h a w h1 h2 h3 (fun t ht hk => ?_) h5
      have := h4 t ht hk
      simp only [e] at this
      exact this
  | o :: rest, k, S0, hl, h => by
    obtain ⟨f, hf, hc, hs, hr⟩ := h
    obtain ⟨S, F, h0, h1, h1c, h2, h3, h4⟩ := wpPT_steps rest (k + 1) _ (fun j hj => by have := hl (j + 1) (by simpa using hj); simpa [Nat.add_assoc, Nat.add_comm 1 j] using this) hr
    have ho : ops[k]? = some o := by simpa using (hl 0 (by simp)).symm
    refine ⟨fun i => if i ≤ k then S0 else S i, fun i => if i ≤ k then f else F i, by simp, fun i => by dsimp only; split <;> first | exact hf | exact h1 i, ?_, ?_, ?_, ?_⟩
    · intro i hi
      by_cases hik : i = k
      · subst hik; simpa using hc
      · have : ¬ i ≤ k := by omega
        simpa [this] using h1c i (by omega)
    · intro i o' hi hi2 ho'
      by_cases hik : i = k
      · subst hik
        rw [ho] at ho'
        obtain rfl := Option.some.inj ho'
        simpa using hs
      · have : ¬ i ≤ k := by omega
        simpa [this] using h2 i o' (by omega) (by simp at hi2; omega) ho'
    · intro i o' hi ho'
      by_cases hik : i = k
      · subst hik
        rw [ho] at ho'
        obtain rfl := Option.some.inj ho'
        have : ¬ i + 1 ≤ i := by omega
        simp only [this, if_false, Nat.le_refl, if_true]
        exact h0
      · have h5 : ¬ i ≤ k := by omega
        have h6 : ¬ i + 1 ≤ k := by omega
        simpa [h5, h6] using h3 i o' (by omega) ho'
    · have h5 : ¬ k + (rest.length + 1) ≤ k := by omega
      simp only [List.length_cons, h5, if_false]
      rw [show k + (rest.length + 1) = k + 1 + rest.length by omega]
      exact h4

/-- What is owed of the pivots' new facts, for a region's list. -/
structure GOk (l : List Oper) (w0 : World) (K : Kills) (R : Nat → Rel) (G : Nat → Nat → Fact) : Prop where
  below : ∀ i w w', R i w w' → Below w0.heap.size w w'
  gstable : ∀ i j, (G i j).stable
  gkeep : ∀ p j i, killB K p j = true → pivB K i = true → i ≠ p → ∀ x w w', R i w w' → G p j x w → G p j x w'
  gmust : ∀ p j, killB K p j = true → G p j = Any ∨ mustB .any l j p = true
theorem gok_any (l : List Oper) (w0 : World) (K : Kills) : GOk l w0 K (fun _ => Below w0.heap.size) (fun _ _ => Any) :=
  ⟨fun _ _ _ h => h, fun _ _ => Any.stable, fun _ _ _ _ _ _ _ _ _ _ _ => trivial, fun _ _ _ => .inl rfl⟩
/-- One pivot that turns one slot. -/
theorem gok_one (l : List Oper) (w0 : World) (p j : Nat) (t : Tmp) (R : Rel) (f : Fact) (hR : ∀ w w', R w w' → Below w0.heap.size w w') (hf : f.stable) (hm : mustB .any l j p = true) : GOk l w0 [(p, [(j, t)])] (fun _ => R) (fun _ _ => f) := by
  refine ⟨fun _ => hR, fun _ _ => hf, fun p' j' i hk hp hne => ?_, fun p' j' hk => ?_⟩
  · simp [killB, pivB] at hk hp
    omega
  · simp [killB] at hk
    obtain ⟨rfl, rfl⟩ := hk
    exact .inr hm

theorem wp_region_pT {id : Nat} {a : Act} {w : World} (init tail : List Oper) (K : Kills) (he : Ext w0 w) (hm : P.follows .mixedOrders = true) (hB : orderB .any (init ++ tail).toArray a.tmps.size = true) (hF : forcedB .any (init ++ tail) init.length = true)
    (hR : readB .any (init ++ tail) K = true) (hs : slotB (init ++ tail) K = true) (hin : K.all (fun x => decide (x.1 < init.length) && x.2.all fun y => decide (y.1 < init.length)) = true) (hG : GOk (init ++ tail) w0 K R G)
    (h : wpPT P (init ++ tail).toArray Q w0 a.tmps.size a.defers tail K R G (condB .any (init ++ tail) K) 0 init (fun t => Is (a.tmps.getD t undef))) : (Code.region id (init ++ tail).toArray true).wp P Q a w := by
  obtain ⟨S, F, h0, h1, h1c, h2, h3, h4⟩ := wpPT_steps init 0 _ (fun j hj => by simp [List.getElem?_append_left hj]) h
  have hO : Owes .any (init ++ tail).toArray w0 K R G F := ⟨hG.below, fun i j hp hij hk hj => by
    rcases h1c j (Nat.zero_le _) with hc | hst
    · exact .inl (condB_ok hB hc hp hij hk)
    · exact .inr (hst i hp), hG.gstable, hG.gkeep, fun p j hk => by
    rcases hG.gmust p j hk with hg | hg
    · exact .inl hg
    · exact .inr (mustB_must hB hg)⟩
  refine wp_region_any hm (wpAny_piv (md := .any) (K := K) (R := R) (G := G) init tail hF h1 (fun t => ⟨_, by rw [h0]⟩) hB hO (slotB_ok hs) (readB_ok hB hR hs) (fun i o => h3 i o (Nat.zero_le _)) (fun i o hi => h2 i o (Nat.zero_le _) (by omega)) (fun a w e1 e2 e3 e4 e5 => h4 a w e1 e2 e3 ?_ ?_) _ _ _ _ (by simp) ?_ ?_ ?_)
  · intro t ht hx
    have := e4 t ht fun i j o hk ho hd => by
      obtain ⟨x, hx1, rfl, y, hy, rfl⟩ := killB_mem hk
      obtain ⟨oy, hoy, hdy⟩ := slotB_ok hs x hx1 y hy
      rw [ho] at hoy
      obtain rfl := Option.some.inj hoy
      rw [hd] at hdy
      exact hx x hx1 y hy (Option.some.inj hdy).symm
    simpa using this
  · intro x hx y hy
    obtain ⟨oy, hoy, hdy⟩ := slotB_ok hs x hx y hy
    rw [List.all_eq_true] at hin
    have h6 := hin x hx
    simp only [Bool.and_eq_true, decide_eq_true_eq, List.all_eq_true] at h6
    exact e5 x.1 y.1 oy y.2 (by unfold killB; rw [List.any_eq_true]; exact ⟨x, hx, by simp; exact ⟨y.2, hy⟩⟩) h6.1 (h6.2 y hy) hoy hdy
  · have := List.countP_le_length (p := fun i => !(Array.replicate (init ++ tail).toArray.size false).getD i false) (l := List.range init.length)
    simp at this ⊢
    omega
  · intro i _
    simp [Array.getElem?_replicate]
    split <;> simp
  · refine ⟨he.trans (Ext.drew w), rfl, rfl, ?_, ?_, ?_, ?_, ?_⟩
    · intro j o d hj hd hl
      simp [Array.getElem?_replicate] at hl
      split at hl <;> simp at hl
    · intro i j o d hj hd hk hl
      simp [Array.getElem?_replicate] at hl
      split at hl <;> simp at hl
    · intro j o d hj hd hl
      rw [h0]; rfl
    · intro d _
      rw [h0]; rfl
    · intro j o e hj hl
      simp [Array.getElem?_replicate] at hl
      split at hl <;> simp at hl

def killIn (G : Nat → Nat → Fact) (p : Nat) (ys : List (Nat × Tmp)) (L : List Fact) : List Fact := ys.foldl (fun L y => L.set y.2 (G p y.1)) L
def killL (G : Nat → Nat → Fact) (K : Kills) (L : List Fact) : List Fact := K.foldl (fun L x => killIn G x.1 x.2 L) L
theorem killIn_at (G : Nat → Nat → Fact) (p : Nat) : ∀ (ys : List (Nat × Tmp)) (L : List Fact) (t : Nat), (killIn G p ys L).length = L.length ∧
    ((∃ y ∈ ys, y.2 = t ∧ (killIn G p ys L).getD t (Is undef) = G p y.1) ∨ ((killIn G p ys L).getD t (Is undef) = L.getD t (Is undef) ∧ (t < L.length → ∀ y ∈ ys, y.2 ≠ t)))
  | [], L, t => by simp [killIn]
  | y :: ys, L, t => by
    obtain ⟨h1, h2⟩ := killIn_at G p ys (L.set y.2 (G p y.1)) t
    have e : killIn G p (y :: ys) L = killIn G p ys (L.set y.2 (G p y.1)) := rfl
    rw [e]
    refine ⟨by rw [h1]; simp, ?_⟩
    rcases h2 with ⟨z, hz, hzt, h2⟩ | ⟨h2, h3⟩
    · exact .inl ⟨z, by simp [hz], hzt, h2⟩
    · rw [h2]
      by_cases hy : y.2 = t
      · by_cases htl : t < L.length
        · left; exact ⟨y, by simp, hy, by simp [List.getD, hy, htl]⟩
        · right; exact ⟨by simp only [List.getD]; rw [List.getElem?_eq_none (by simp; omega), List.getElem?_eq_none (by omega)], fun h => absurd h htl⟩
      · right
        refine ⟨by simp only [List.getD]; rw [List.getElem?_set_ne hy], fun htl z hz => ?_⟩
        rw [List.mem_cons] at hz
        rcases hz with rfl | hz
        · exact hy
        · exact h3 (by simpa using htl) z hz
theorem killL_at (G : Nat → Nat → Fact) : ∀ (K : Kills) (L : List Fact) (t : Nat), (killL G K L).length = L.length ∧
    ((∃ x ∈ K, ∃ y ∈ x.2, y.2 = t ∧ (killL G K L).getD t (Is undef) = G x.1 y.1) ∨ ((killL G K L).getD t (Is undef) = L.getD t (Is undef) ∧ (t < L.length → ∀ x ∈ K, ∀ y ∈ x.2, y.2 ≠ t)))
  | [], L, t => by simp [killL]
  | x :: K, L, t => by
    obtain ⟨a1, a2⟩ := killIn_at G x.1 x.2 L t
    obtain ⟨h1, h2⟩ := killL_at G K (killIn G x.1 x.2 L) t
    have e : killL G (x :: K) L = killL G K (killIn G x.1 x.2 L) := rfl
    rw [e]
    refine ⟨by rw [h1, a1], ?_⟩
    rcases h2 with ⟨z, hz, y, hy, hyt, h2⟩ | ⟨h2, h3⟩
    · exact .inl ⟨z, by simp [hz], y, hy, hyt, h2⟩
    · rw [h2]
      rcases a2 with ⟨y, hy, hyt, a2⟩ | ⟨a2, a3⟩
      · exact .inl ⟨x, by simp, y, hy, hyt, a2⟩
      · refine .inr ⟨a2, fun htl z hz => ?_⟩
        rw [List.mem_cons] at hz
        rcases hz with rfl | hz
        · exact a3 htl
        · exact h3 (by rw [a1]; exact htl) z hz

def wpPL (P : Program) (ops : Array Oper) (Q : Exit → Act → World → Prop) (w0 : World) (tail : List Oper) (ds : List Deferred) (K : Kills) (R : Nat → Rel) (G : Nat → Nat → Fact) (cond : Nat → Bool) : Nat → List Oper → List Fact → Prop
  | _, [], L => ∀ w, Ext w0 w → Rest P ops Q tail ds w (killL G K L) []
  | k, o :: rest, L => ∃ f : Fact, f.stable ∧ (cond k = true ∨ f.strong K R) ∧ (∀ a w, Ext w0 w → Reads ops (factAt L) o a w → StepP P ops Q K R G k f o a w) ∧ wpPL P ops Q w0 tail ds K R G cond (k + 1) rest (setL L o.dst f)

theorem wpPT_of_list : ∀ (l : List Oper) (k : Nat) (L : List Fact), (∀ o ∈ l, ∀ d, o.dst = some d → d < L.length) → wpPL P ops Q w0 tail ds K R G cond k l L → wpPT P ops Q w0 L.length ds tail K R G cond k l (factAt L)
  | [], k, L, _, h => fun a w he hd hs hf hg => by
    have hx := rest_all w (killL G K L) [] a.tmps.toList (h w he) (by rw [(killL_at G K L 0).1]; simpa using hs) (fun t ht => by
      have ht' : t < a.tmps.size := by simpa using ht
      obtain ⟨_, h2⟩ := killL_at G K L t
      rcases h2 with ⟨x, hx, y, hy, hyt, h2⟩ | ⟨h2, h3⟩
      · rw [h2]
        have := hg x hx y hy
        rw [hyt] at this
        simpa [ht'] using this
      · have := hf t (by omega) (h3 (by omega))
        rw [h2]; simpa [factAt, ht'] using this)
    rw [← hd] at hx
    simpa using hx
  | o :: rest, k, L, hd, h => by
    obtain ⟨f, h1, h1c, h2, h3⟩ := h
    refine ⟨f, h1, h1c, h2, ?_⟩
    cases ho : o.dst with
    | none =>
      rw [ho] at h3
      exact wpPT_of_list rest (k + 1) L (fun o' ho' => hd o' (by simp [ho'])) h3
    | some d =>
      rw [ho] at h3
      have hdl := hd o (by simp) d ho
      have := wpPT_of_list rest (k + 1) (L.set d f) (fun o' ho' d' hd' => by rw [List.length_set]; exact hd o' (by simp [ho']) d' hd') h3
      rw [List.length_set, factAt_set L d f hdl] at this
      exact this

/-- **The region, at a frame that is written out**: the first k operations in whatever order, with the pivots K; the others behind them. -/
theorem wp_region_pk {id : Nat} {w : World} (k : Nat) (K : Kills) {l : List Oper} {vs : List Value} (he : Ext w0 w) (hm : P.follows .mixedOrders = true) (hB : orderB .any l.toArray vs.length = true) (hF : forcedB .any l (l.take k).length = true)
    (hR : readB .any l K = true) (hs : slotB l K = true) (hin : K.all (fun x => decide (x.1 < (l.take k).length) && x.2.all fun y => decide (y.1 < (l.take k).length)) = true) (hG : GOk l w0 K R G)
    (h : wpPL P l.toArray Q w0 (l.drop k) ds K R G (condB .any l K) 0 (l.take k) (vs.map Is)) : (Code.region id l.toArray true).wp P Q ⟨vs.toArray, ds⟩ w := by
  have hl := take_drop_eq k l
  generalize l.take k = init at *
  generalize l.drop k = tail at *
  subst hl
  refine wp_region_pT init tail K he hm (by simpa using hB) hF hR hs hin hG ?_
  have hdst : ∀ o ∈ init, ∀ d, o.dst = some d → d < (vs.map Is).length := by
    intro o ho d hd
    obtain ⟨k, hk⟩ := List.getElem?_of_mem (show o ∈ init ++ tail by simp [ho])
    have := (orderB_spec (ops := (init ++ tail).toArray) hB (i := k) (j := k) (by simpa using hk) (by simpa using hk) hd).1
    simpa using this
  have h1 := wpPT_of_list init 0 (vs.map Is) hdst h
  have e : factAt (vs.map Is) = fun t => Is ((vs.toArray).getD t undef) := by
    funext t
    simp only [factAt, List.getD, List.getElem?_map]
    by_cases ht : t < vs.length
    · simp [ht]
    · simp [List.getElem?_eq_none (Nat.le_of_not_lt ht)]
  rw [e] at h1
  simpa using h1

section
variable {o : Oper} {rest : List Oper} {L : List Fact} {k : Nat}
/-- Is operation o carried out, by what is known of its guard? -/
def wantsB (ops : Array Oper) (L : List Fact) (o : Oper) : Prop := o.guard = none ∨ ∃ g b d, o.guard = some (g, b) ∧ (ops[g]?).bind (·.dst) = some d ∧ factAt L d = Is (.bool b)
theorem wants_of (h : wantsB ops L o) {a : Act} {w : World} (hr : Reads ops (factAt L) o a w) (hsz : ∀ d v, a.tmps.getD d undef = Value.bool v → a.tmps[d]? = some (.bool v)) : Region.wanted o (yielded ops a.tmps) = true := by
  unfold Region.wanted
  rcases h with h | ⟨g, b, d, h1, h2, h3⟩
  · rw [h]
  · rw [h1]
    have hd : d ∈ o.looksAt ops := by unfold Oper.looksAt; rw [h1]; simp [h2]
    have h4 := hr d hd
    rw [h3] at h4
    have h5 := hsz d b h4
    simp only [yielded, h2, Option.bind_some, h5]
    simp
theorem bool_at (a : Act) (d : Nat) (v : Bool) (h : a.tmps.getD d undef = Value.bool v) : a.tmps[d]? = some (.bool v) := by
  by_cases hd : d < a.tmps.size
  · simp [hd] at h ⊢; exact h
  · simp [Array.getElem?_eq_none (Nat.le_of_not_lt hd)] at h
    cases h
theorem wpPL_step (f : Fact) (hf : f.stable) (hc : cond k = true ∨ f.strong K R) (hp : pivB K k = false) (hg : wantsB ops L o)
    (h1 : ∀ a w, Ext w0 w → Reads ops (factAt L) o a w → ∀ C : Act → World → Prop, (∀ v w', Ext w w' → f v w' → C (a.put o.dst v) w') → o.wp P a w C Q)
    (h : wpPL P ops Q w0 tail ds K R G cond (k + 1) rest (setL L o.dst f)) : wpPL P ops Q w0 tail ds K R G cond k (o :: rest) L :=
  ⟨f, hf, hc, fun a w he hr => by
    unfold StepP
    rw [if_pos (wants_of hg hr (fun d v => bool_at a d v))]
    exact fun C hC => h1 a w he hr C fun v w' he' hv => hC v w' (by unfold StepW; rw [hp]; exact he') hv (fun x hx hxi => by
      have : pivB K k = true := by unfold pivB; rw [List.any_eq_true]; exact ⟨x, hx, by simp [hxi]⟩
      rw [hp] at this; cases this), h⟩
/-- A pivot. -/
theorem wpPL_pivot (f : Fact) (hf : f.stable) (hc : cond k = true ∨ f.strong K R) (hp : pivB K k = true) (hg : wantsB ops L o)
    (h1 : ∀ a w, Ext w0 w → Reads ops (factAt L) o a w → ∀ C : Act → World → Prop, (∀ v w', R k w w' → f v w' → Turned K G k a w' → C (a.put o.dst v) w') → o.wp P a w C Q)
    (h : wpPL P ops Q w0 tail ds K R G cond (k + 1) rest (setL L o.dst f)) : wpPL P ops Q w0 tail ds K R G cond k (o :: rest) L :=
  ⟨f, hf, hc, fun a w he hr => by
    unfold StepP
    rw [if_pos (wants_of hg hr (fun d v => bool_at a d v))]
    exact fun C hC => h1 a w he hr C fun v w' he' => hC v w' (by unfold StepW; rw [hp]; exact he'), h⟩
theorem wpPL_det {v : Value} (hp : pivB K k = false) (hg : wantsB ops L o) (h1 : ∀ a w, Ext w0 w → Reads ops (factAt L) o a w → ∀ C : Act → World → Prop, (∀ w', Ext w w' → C (a.put o.dst v) w') → o.wp P a w C Q)
    (h : wpPL P ops Q w0 tail ds K R G cond (k + 1) rest (setL L o.dst (Is v))) : wpPL P ops Q w0 tail ds K R G cond k (o :: rest) L :=
  wpPL_step (Is v) (Is.stable v) (.inr (Is.strong _ _ _)) hp hg (fun a w he hr C hC => h1 a w he hr C fun w' he' => hC v w' he' rfl) h
theorem wpPL_move (t : Tmp) (f : Fact) (hp : pivB K k = false) (hg : wantsB ops L o) (ho : o.op = .move (.tmp t) ∨ o.op = .assign (.tmp t)) (hf : L.getD t (Is undef) = f) (hs : f.stable) (hc : cond k = true ∨ f.strong K R)
    (h : wpPL P ops Q w0 tail ds K R G cond (k + 1) rest (setL L o.dst f)) : wpPL P ops Q w0 tail ds K R G cond k (o :: rest) L := by
  subst hf
  refine wpPL_step _ hs hc hp hg (fun a w _ hr C hC => ?_) h
  have ht : factAt L t (a.tmps.getD t undef) w := hr t (by rcases ho with ho | ho <;> simp [Oper.looksAt, ho, Op.operands])
  have h1 := hC _ w (Ext.refl w) ht
  unfold Oper.wp
  rcases ho with ho | ho
  · rw [BigFrame.run_move _ ho]; exact h1
  · rw [BigFrame.run_assign _ ho]; exact h1
/-- Nothing is turned where the new facts say nothing. -/
theorem turned_any (K : Kills) (k : Nat) (a : Act) (w : World) : Turned K (fun _ _ => Any) k a w := fun _ _ _ _ _ => trivial
end
end
end Dsd
