/- A region with pivots (Piv.lean), once more: who comes up ahead of all pivots, and the first pivot, finds the region's first world grown alone: so a pivot may turn memory that was there. Over any program. -/
import Derived.Test.YtmnpappbacndlaaGreatDoorPiv
set_option linter.unusedSimpArgs false
set_option linter.unusedVariables false
namespace Dsd.Pre
open Go Go.RowKit Dsd
section
variable {P : Program} {ops : Array Oper} {md : Region.Mode} {Q : Exit → Act → World → Prop} {w0 : World} {n : Nat} {ds : List Deferred} {K : Kills} {Pr : Nat → World → Prop} {R : Nat → Rel} {G : Nat → Nat → Fact} {S : Nat → Nat → Fact} {F : Nat → Fact}
structure UInv (md : Region.Mode) (ops : Array Oper) (w0 : World) (n : Nat) (ds : List Deferred) (K : Kills) (Pr : Nat → World → Prop) (G : Nat → Nat → Fact) (S : Nat → Nat → Fact) (F : Nat → Fact) (listed : Array Bool) (a : Act) (w : World) : Prop where
  base : VInv md ops w0 n ds K G S F listed a w
  pre : ∀ p, pivB K p = true → listed.getD p false = false → Pr p w
theorem UInv.preOf {listed : Array Bool} {a : Act} {w : World} (h : UInv md ops w0 n ds K Pr G S F listed a w) {i : Nat} (hr : i ∈ Region.ready md ops listed) (hls : listed.size = ops.size) (p : Nat) (hpp : pivB K p = true) (hp : p = i ∨ Must md ops i p) : Pr p w := by
  obtain ⟨hun, o, ho, hall⟩ := mem_ready.1 hr
  have hunf : listed.getD i false = false := by
    simp only [Array.getD_eq_getD_getElem?] at hun ⊢
    cases hx : listed[i]? with
    | none => simp
    | some b => rw [hx] at hun; simpa using hun
  refine h.pre p hpp ?_
  rcases hp with rfl | hm
  · exact hunf
  · cases hl : listed.getD p false with
    | false => rfl
    | true =>
      by_cases hpl : p < ops.size
      · have := h.base.must (Array.getElem?_eq_getElem hpl) hl hm
        rw [hunf] at this; cases this
      · have hp2 : ¬ p < listed.size := by omega
        simp [hp2] at hl
/-- What is owed of the words that hold till a pivot comes up. -/
structure PrOk (md : Region.Mode) (ops : Array Oper) (K : Kills) (R : Nat → Rel) (Pr : Nat → World → Prop) : Prop where
  ext : ∀ p, pivB K p = true → ∀ w w', Ext w w' → Pr p w → Pr p w'
  piv : ∀ p q, pivB K p = true → pivB K q = true → q ≠ p → Must md ops p q ∨ ∀ w w', R q w w' → Pr p w → Pr p w'
theorem UInv.put (hF : ∀ i, (F i).stable) (hS : ∀ t, ∃ v, S 0 t = Is v) (hB : orderB md ops n = true) (hO : Owes md ops w0 K R G F) (hs : SlotOk ops K) (hP : PrOk md ops K R Pr)
    {listed : Array Bool} {a : Act} {w w' : World} (h : UInv md ops w0 n ds K Pr G S F listed a w) {i : Nat} {o : Oper} (ho : ops[i]? = some o)
    (hr : i ∈ Region.ready md ops listed) (hls : listed.size = ops.size) {v : Value} (he : StepW K R i w w') (hv : F i v w') (ht : Turned K G i a w') : UInv md ops w0 n ds K Pr G S F (listed.setIfInBounds i true) (a.put o.dst v) w' := by
  refine ⟨h.base.put hF hS hB hO hs ho hr hls he hv ht, fun p hpp hl => ?_⟩
  have hil := (Array.getElem?_eq_some_iff.1 ho).1
  have hip : i ≠ p := by
    intro e
    subst e
    have h3 : i < listed.size := by omega
    simp [h3] at hl
  rw [getD_set_ne false hip] at hl
  have h1 := h.pre p hpp hl
  obtain ⟨hun, o', ho', hall⟩ := mem_ready.1 hr
  obtain rfl := Option.some.inj (ho.symm.trans ho')
  unfold StepW at he
  split at he
  · rename_i hpi
    rcases hP.piv p i hpp hpi hip with hm | hk
    · have := hm o listed ho h.base.closed (fun e he hb => hall e he hb)
      rw [hl] at this; cases this
    · exact hk _ _ he h1
  · exact hP.ext p hpp _ _ he h1

theorem wpAny_piv (init tail : List Oper) (hF' : forcedB md (init ++ tail) init.length = true) (hF : ∀ i, (F i).stable) (hS : ∀ t, ∃ v, S 0 t = Is v) (hB : orderB md (init ++ tail).toArray n = true)
    (hO : Owes md (init ++ tail).toArray w0 K R G F) (hs : SlotOk (init ++ tail).toArray K) (hP : PrOk md (init ++ tail).toArray K R Pr) (hR : ReadOk md (init ++ tail).toArray K)
    (hnext : ∀ i o, (init ++ tail).toArray[i]? = some o → S (i + 1) = upd (S i) o.dst (F i))
    (hstep : ∀ i o, i < init.length → (init ++ tail).toArray[i]? = some o → ∀ a w, Ext w0 w → (∀ p, pivB K p = true → (p = i ∨ Must md (init ++ tail).toArray i p) → Pr p w) → Reads (init ++ tail).toArray (S i) o a w → StepP P (init ++ tail).toArray Q K R G i (F i) o a w)
    (hend : ∀ a w, Ext w0 w → a.defers = ds → a.tmps.size = n → (∀ t, t < n → (∀ i j o, killB K i j = true → (init ++ tail).toArray[j]? = some o → o.dst ≠ some t) → S init.length t (a.tmps.getD t undef) w) →
      (∀ i j o t, killB K i j = true → i < init.length → j < init.length → (init ++ tail).toArray[j]? = some o → o.dst = some t → G i j (a.tmps.getD t undef) w) → wpList P (init ++ tail).toArray Q tail a w) :
    ∀ (fuel : Nat) (listed : Array Bool) (a : Act) (w : World), listed.size = (init ++ tail).length → (List.range init.length).countP (fun i => !listed.getD i false) + tail.length ≤ fuel → (∀ i, init.length ≤ i → listed.getD i false = false) →
      UInv md (init ++ tail).toArray w0 n ds K Pr G S F listed a w → wpAny P md (init ++ tail).toArray Q fuel listed a w := by
  intro fuel
  have start : ∀ (fuel : Nat) (listed : Array Bool) (a : Act) (w : World), listed.size = (init ++ tail).length → tail.length ≤ fuel → (∀ i, i < init.length → listed.getD i false = true) → (∀ i, init.length ≤ i → listed.getD i false = false) →
      UInv md (init ++ tail).toArray w0 n ds K Pr G S F listed a w → wpAny P md (init ++ tail).toArray Q fuel listed a w := by
    intro fuel listed a w hls hfu hall hnone h
    refine wpAny_tail init tail hB hF' tail.length tail fuel listed a w rfl ⟨[], by simp, fun i => ?_⟩ hls hfu ?_
    · by_cases hi : i < init.length
      · rw [hall i hi]; simp [hi]
      · rw [hnone i (by omega)]; simp [hi]
    · refine hend a w h.base.ext h.base.defers h.base.size (fun t ht hkill => ?_) (fun i j o t hk hi hj ho hd => h.base.turn i j o t ho hd hk (hall i hi) (hall j hj))
      by_cases hw : ∃ (j : Nat) (oj : Oper), (init ++ tail).toArray[j]? = some oj ∧ oj.dst = some t
      · obtain ⟨j, oj, hj, hd⟩ := hw
        have hjl := (Array.getElem?_eq_some_iff.1 hj).1
        by_cases hji : j < init.length
        · rw [S_writer hnext hB hj hd init.length (by simp) hji]
          exact h.base.done j oj t hj hd (hall j hji) fun i hi => absurd hd (hkill i j oj hi hj)
        · rw [S_other hnext t init.length (by simp) (fun k ok hk hok hkd => (orderB_spec hB hok hj hd).2.1 (by omega) hkd)]
          exact h.base.wait j oj t hj hd (hnone j (by omega))
      · rw [S_other hnext t init.length (by simp) (fun k ok _ hok hkd => hw ⟨k, ok, hok, hkd⟩)]
        exact h.base.other t (fun k ok hok hkd => hw ⟨k, ok, hok, hkd⟩)
  induction fuel with
  | zero =>
    intro listed a w hls hc hnone h
    refine start 0 listed a w hls (by omega) (fun i hi => ?_) hnone h
    have h0 : (List.range init.length).countP (fun i => !listed.getD i false) = 0 := by omega
    rw [List.countP_eq_zero] at h0
    have := h0 i (by simpa using hi)
    simpa using this
  | succ fuel ih =>
    intro listed a w hls hc hnone h
    by_cases hallB : ∀ i, i < init.length → listed.getD i false = true
    · exact start (fuel + 1) listed a w hls (by omega) hallB hnone h
    · have hready : ∀ i ∈ Region.ready md (init ++ tail).toArray listed, i < init.length := by
        intro i hi
        obtain ⟨hun, oi, hoi, hall⟩ := mem_ready.1 hi
        have hil := (Array.getElem?_eq_some_iff.1 hoi).1
        by_cases hlt : i < init.length
        · exact hlt
        · exfalso
          apply hallB
          intro k hk
          exact forcedB_spec hB hF' (by simpa using hil) (by omega) (by omega) oi listed hoi h.base.closed hall
      refine ⟨fun hr => ?_, fun i hi => ?_⟩
      · exfalso
        apply hallB
        have := all_listed hB hr (by simpa using hls) (init ++ tail).length
        exact fun i hi => this i (by simp; omega) (by simp; omega)
      · have hii := hready i hi
        obtain ⟨hun, o, ho, _⟩ := mem_ready.1 hi
        have hil := (Array.getElem?_eq_some_iff.1 ho).1
        have h1 : i < listed.size := by simp at hil hls; omega
        have hcnt : (List.range init.length).countP (fun j => !(listed.setIfInBounds i true).getD j false) + tail.length ≤ fuel := by
          have := countP_lt (fun j => !listed.getD j false) (fun j => !(listed.setIfInBounds i true).getD j false) i (List.range init.length) (fun x _ hx => by
            by_cases hxi : i = x
            · subst hxi; simp [h1] at hx
            · rwa [getD_set_ne false hxi] at hx) (by simpa using hii) (by simp [h1] at hun ⊢; exact hun) (by simp [h1])
          omega
        have hst := hstep i o hii ho a w h.base.ext (h.preOf hi (by simpa using hls)) (preads_of hnext hB hR h.base ho hi (by simpa using hls))
        have hnone' : ∀ j, init.length ≤ j → (listed.setIfInBounds i true).getD j false = false := fun j hj => by
          rw [getD_set_ne false (by omega)]; exact hnone j hj
        unfold StepP at hst
        unfold wpOp
        simp only [ho]
        split
        · rename_i hw
          rw [if_pos hw] at hst
          exact .inl (hst _ fun v w' he hv ht => ih _ _ _ (by simpa using hls) hcnt hnone' (h.put hF hS hB hO hs hP ho hi (by simpa using hls) he hv ht))
        · rename_i hw
          rw [if_neg hw] at hst
          exact ih _ _ _ (by simpa using hls) hcnt hnone' (h.put hF hS hB hO hs hP ho hi (by simpa using hls) (by unfold StepW; rw [hst.2]; exact Ext.refl w) hst.1 (fun x hx hxi => by
            have : pivB K i = true := by unfold pivB; rw [List.any_eq_true]; exact ⟨x, hx, by simp [hxi]⟩
            rw [hst.2] at this; cases this))
end
/-- What operation k's fact owes each pivot: it is the pivot's own, or ended by it, or laid behind it, or it stands. -/
def condX (md : Region.Mode) (l : List Oper) (x : Nat × List (Nat × Tmp)) (k : Nat) : Bool := x.1 == k || x.2.any (fun y => y.1 == k) || mustB md l x.1 k
def KeepsP (md : Region.Mode) (l : List Oper) (K : Kills) (R : Nat → Rel) (k : Nat) (f : Fact) : Prop := ∀ x ∈ K, condX md l x k = true ∨ ∀ v w w', R x.1 w w' → f v w → f v w'
theorem KeepsP.is (md : Region.Mode) (l : List Oper) (K : Kills) (R : Nat → Rel) (k : Nat) (v : Value) : KeepsP md l K R k (Is v) := fun _ _ => .inr fun _ _ _ _ h => h
theorem KeepsP.undef (md : Region.Mode) (l : List Oper) (K : Kills) (R : Nat → Rel) (k : Nat) : KeepsP md l K R k (Is Go.undef) := KeepsP.is md l K R k Go.undef
theorem keepsP_ok {md : Region.Mode} {l : List Oper} {n : Nat} {K : Kills} {R : Nat → Rel} {f : Fact} (hB : orderB md l.toArray n = true) {i j : Nat} (h : KeepsP md l K R j f) (hp : pivB K i = true) (hij : i ≠ j) (hk : killB K i j = false) : Must md l.toArray i j ∨ ∀ x w w', R i w w' → f x w → f x w' := by
  unfold pivB at hp
  rw [List.any_eq_true] at hp
  obtain ⟨x, hx, h1⟩ := hp
  obtain rfl : x.1 = i := by simpa using h1
  rcases h x hx with h2 | h2
  · unfold condX at h2
    simp only [Bool.or_eq_true, beq_iff_eq] at h2
    rcases h2 with (h2 | h2) | h2
    · exact absurd h2 hij
    · unfold killB at hk
      rw [List.any_eq_false] at hk
      have := hk x hx
      simp [h2] at this
    · exact .inl (mustB_must hB h2)
  · exact .inr h2
/-- Pivot p cannot have come up ahead of operation k. -/
def preP (md : Region.Mode) (l : List Oper) (K : Kills) (p k : Nat) : Bool := p == k || mustB md l k p
theorem preP_ok {md : Region.Mode} {l : List Oper} {n : Nat} {K : Kills} (hB : orderB md l.toArray n = true) {p k : Nat} (h : preP md l K p k = true) : p = k ∨ Must md l.toArray k p := by
  unfold preP at h
  simp only [Bool.or_eq_true, beq_iff_eq] at h
  rcases h with h | h
  · exact .inl h
  · exact .inr (mustB_must hB h)

section
variable {P : Program} {ops : Array Oper} {Q : Exit → Act → World → Prop} {w0 : World} {n : Nat} {ds : List Deferred} {tail : List Oper} {K : Kills} {Pr : Nat → World → Prop} {R : Nat → Rel} {G : Nat → Nat → Fact} {pre : Nat → Nat → Bool} {Kp : Nat → Fact → Prop}
def wpPT (P : Program) (ops : Array Oper) (Q : Exit → Act → World → Prop) (w0 : World) (n : Nat) (ds : List Deferred) (tail : List Oper) (K : Kills) (R : Nat → Rel) (G : Nat → Nat → Fact) (Pr : Nat → World → Prop) (pre : Nat → Nat → Bool) (Kp : Nat → Fact → Prop) : Nat → List Oper → (Nat → Fact) → Prop
  | _, [], S => ∀ a w, Ext w0 w → a.defers = ds → a.tmps.size = n → (∀ t, t < n → (∀ x ∈ K, ∀ y ∈ x.2, y.2 ≠ t) → S t (a.tmps.getD t undef) w) → (∀ x ∈ K, ∀ y ∈ x.2, G x.1 y.1 (a.tmps.getD y.2 undef) w) → wpList P ops Q tail a w
  | k, o :: rest, S => ∃ f : Fact, f.stable ∧ Kp k f ∧ (∀ a w, Ext w0 w → (∀ p, pivB K p = true → pre p k = true → Pr p w) → Reads ops S o a w → StepP P ops Q K R G k f o a w) ∧ wpPT P ops Q w0 n ds tail K R G Pr pre Kp (k + 1) rest (upd S o.dst f)

theorem wpPT_steps (hKp : ∀ i, Kp i (Is undef)) : ∀ (l : List Oper) (k : Nat) (S0 : Nat → Fact), (∀ j, j < l.length → l[j]? = ops[k + j]?) → wpPT P ops Q w0 n ds tail K R G Pr pre Kp k l S0 →
    ∃ (S : Nat → Nat → Fact) (F : Nat → Fact), S k = S0 ∧ (∀ i, (F i).stable) ∧ (∀ i, k ≤ i → Kp i (F i)) ∧ (∀ i o, k ≤ i → i < k + l.length → ops[i]? = some o → ∀ a w, Ext w0 w → (∀ p, pivB K p = true → pre p i = true → Pr p w) → Reads ops (S i) o a w → StepP P ops Q K R G i (F i) o a w) ∧
      (∀ i o, k ≤ i → ops[i]? = some o → S (i + 1) = upd (S i) o.dst (F i)) ∧
      (∀ a w, Ext w0 w → a.defers = ds → a.tmps.size = n → (∀ t, t < n → (∀ x ∈ K, ∀ y ∈ x.2, y.2 ≠ t) → S (k + l.length) t (a.tmps.getD t undef) w) → (∀ x ∈ K, ∀ y ∈ x.2, G x.1 y.1 (a.tmps.getD y.2 undef) w) → wpList P ops Q tail a w)
  | [], k, S0, _, h => by
    refine ⟨fun i => contS ops S0 k (i - k), fun _ => Is undef, by simp [contS], fun _ => Is.stable _, fun i _ => hKp i, ?_, ?_, ?_⟩
    · intro i o hi hi2 ho; simp at hi2; omega
    · intro i o hi ho
      have e : i + 1 - k = (i - k) + 1 := by omega
      show contS ops S0 k (i + 1 - k) = _
      rw [e, contS, show k + (i - k) = i by omega, ho]
    · have e : contS ops S0 k (k + ([] : List Oper).length - k) = S0 := by simp [contS]
      intro a w h1 h2 h3 h4 h5
      refine h a w h1 h2 h3 (fun t ht hk => ?_) h5
      have := h4 t ht hk
      simp only [e] at this
      exact this
  | o :: rest, k, S0, hl, h => by
    obtain ⟨f, hf, hc, hs, hr⟩ := h
    obtain ⟨S, F, h0, h1, h1c, h2, h3, h4⟩ := wpPT_steps hKp rest (k + 1) _ (fun j hj => by have := hl (j + 1) (by simpa using hj); simpa [Nat.add_assoc, Nat.add_comm 1 j] using this) hr
    have ho : ops[k]? = some o := by simpa using (hl 0 (by simp)).symm
    refine ⟨fun i => if i ≤ k then S0 else S i, fun i => if i ≤ k then f else F i, by simp, fun i => by dsimp only; split <;> first | exact hf | exact h1 i, ?_, ?_, ?_, ?_⟩
    · intro i hi
      by_cases hik : i = k
      · subst hik; simpa using hc
      · have : ¬ i ≤ k := by omega
        simpa [this] using h1c i (by omega)
    · intro i o' hi hi2 ho'
      by_cases hik : i = k
      · subst hik
        rw [ho] at ho'
        obtain rfl := Option.some.inj ho'
        simpa using hs
      · have : ¬ i ≤ k := by omega
        simpa [this] using h2 i o' (by omega) (by simp at hi2; omega) ho'
    · intro i o' hi ho'
      by_cases hik : i = k
      · subst hik
        rw [ho] at ho'
        obtain rfl := Option.some.inj ho'
        have : ¬ i + 1 ≤ i := by omega
        simp only [this, if_false, Nat.le_refl, if_true]
        exact h0
      · have h5 : ¬ i ≤ k := by omega
        have h6 : ¬ i + 1 ≤ k := by omega
        simpa [h5, h6] using h3 i o' (by omega) ho'
    · have h5 : ¬ k + (rest.length + 1) ≤ k := by omega
      simp only [List.length_cons, h5, if_false]
      rw [show k + (rest.length + 1) = k + 1 + rest.length by omega]
      exact h4

theorem wp_region_pT {id : Nat} {a : Act} {w : World} (init tail : List Oper) (K : Kills) (he : Ext w0 w) (hm : P.follows .mixedOrders = true) (hB : orderB .any (init ++ tail).toArray a.tmps.size = true) (hF : forcedB .any (init ++ tail) init.length = true)
    (hR : readB .any (init ++ tail) K = true) (hs : slotB (init ++ tail) K = true) (hin : K.all (fun x => decide (x.1 < init.length) && x.2.all fun y => decide (y.1 < init.length)) = true) (hG : GOk (init ++ tail) w0 K R G) (hPr : PrOk .any (init ++ tail).toArray K R Pr) (hP0 : ∀ p, pivB K p = true → Pr p w)
    (h : wpPT P (init ++ tail).toArray Q w0 a.tmps.size a.defers tail K R G Pr (preP .any (init ++ tail) K) (KeepsP .any (init ++ tail) K R) 0 init (fun t => Is (a.tmps.getD t undef))) : (Code.region id (init ++ tail).toArray true).wp P Q a w := by
  obtain ⟨S, F, h0, h1, h1c, h2, h3, h4⟩ := wpPT_steps (fun i => KeepsP.undef _ _ _ _ i) init 0 _ (fun j hj => by simp [List.getElem?_append_left hj]) h
  have hO : Owes .any (init ++ tail).toArray w0 K R G F := ⟨hG.below, fun i j hp hij hk hj => by
    exact keepsP_ok hB (h1c j (Nat.zero_le _)) hp hij hk, hG.gstable, hG.gkeep, fun p j hk => by
    rcases hG.gmust p j hk with hg | hg
    · exact .inl hg
    · exact .inr (mustB_must hB hg)⟩
  refine wp_region_any hm (wpAny_piv (md := .any) (K := K) (R := R) (G := G) (Pr := Pr) init tail hF h1 (fun t => ⟨_, by rw [h0]⟩) hB hO (slotB_ok hs) hPr (readB_ok hB hR hs) (fun i o => h3 i o (Nat.zero_le _)) (fun i o hi ho a w' e1 e2 => h2 i o (Nat.zero_le _) (by omega) ho a w' e1 (fun p hp hpr => e2 p hp (preP_ok hB hpr))) (fun a w e1 e2 e3 e4 e5 => h4 a w e1 e2 e3 ?_ ?_) _ _ _ _ (by simp) ?_ ?_ ?_)
  · intro t ht hx
    have := e4 t ht fun i j o hk ho hd => by
      obtain ⟨x, hx1, rfl, y, hy, rfl⟩ := killB_mem hk
      obtain ⟨oy, hoy, hdy⟩ := slotB_ok hs x hx1 y hy
      rw [ho] at hoy
      obtain rfl := Option.some.inj hoy
      rw [hd] at hdy
      exact hx x hx1 y hy (Option.some.inj hdy).symm
    simpa using this
  · intro x hx y hy
    obtain ⟨oy, hoy, hdy⟩ := slotB_ok hs x hx y hy
    rw [List.all_eq_true] at hin
    have h6 := hin x hx
    simp only [Bool.and_eq_true, decide_eq_true_eq, List.all_eq_true] at h6
    exact e5 x.1 y.1 oy y.2 (by unfold killB; rw [List.any_eq_true]; exact ⟨x, hx, by simp; exact ⟨y.2, hy⟩⟩) h6.1 (h6.2 y hy) hoy hdy
  · have := List.countP_le_length (p := fun i => !(Array.replicate (init ++ tail).toArray.size false).getD i false) (l := List.range init.length)
    simp at this ⊢
    omega
  · intro i _
    simp [Array.getElem?_replicate]
    split <;> simp
  · refine ⟨⟨he.trans (Ext.drew w), rfl, rfl, ?_, ?_, ?_, ?_, ?_⟩, fun p hp _ => hPr.ext p hp _ _ (Ext.drew w) (hP0 p hp)⟩
    · intro j o d hj hd hl
      simp [Array.getElem?_replicate] at hl
      split at hl <;> simp at hl
    · intro i j o d hj hd hk hl
      simp [Array.getElem?_replicate] at hl
      split at hl <;> simp at hl
    · intro j o d hj hd hl
      rw [h0]; rfl
    · intro d _
      rw [h0]; rfl
    · intro j o e hj hl
      simp [Array.getElem?_replicate] at hl
      split at hl <;> simp at hl

def wpPL (P : Program) (ops : Array Oper) (Q : Exit → Act → World → Prop) (w0 : World) (tail : List Oper) (ds : List Deferred) (K : Kills) (R : Nat → Rel) (G : Nat → Nat → Fact) (Pr : Nat → World → Prop) (pre : Nat → Nat → Bool) (Kp : Nat → Fact → Prop) : Nat → List Oper → List Fact → Prop
  | _, [], L => ∀ w, Ext w0 w → Rest P ops Q tail ds w (killL G K L) []
  | k, o :: rest, L => ∃ f : Fact, f.stable ∧ Kp k f ∧ (∀ a w, Ext w0 w → (∀ p, pivB K p = true → pre p k = true → Pr p w) → Reads ops (factAt L) o a w → StepP P ops Q K R G k f o a w) ∧ wpPL P ops Q w0 tail ds K R G Pr pre Kp (k + 1) rest (setL L o.dst f)

theorem wpPT_of_list : ∀ (l : List Oper) (k : Nat) (L : List Fact), (∀ o ∈ l, ∀ d, o.dst = some d → d < L.length) → wpPL P ops Q w0 tail ds K R G Pr pre Kp k l L → wpPT P ops Q w0 L.length ds tail K R G Pr pre Kp k l (factAt L)
  | [], k, L, _, h => fun a w he hd hs hf hg => by
    have hx := rest_all w (killL G K L) [] a.tmps.toList (h w he) (by rw [(killL_at G K L 0).1]; simpa using hs) (fun t ht => by
      have ht' : t < a.tmps.size := by simpa using ht
      obtain ⟨_, h2⟩ := killL_at G K L t
      rcases h2 with ⟨x, hx, y, hy, hyt, h2⟩ | ⟨h2, h3⟩
      · rw [h2]
        have := hg x hx y hy
        rw [hyt] at this
        simpa [ht'] using this
      · have := hf t (by omega) (h3 (by omega))
        rw [h2]; simpa [factAt, ht'] using this)
    rw [← hd] at hx
    simpa using hx
  | o :: rest, k, L, hd, h => by
    obtain ⟨f, h1, h1c, h2, h3⟩ := h
    refine ⟨f, h1, h1c, h2, ?_⟩
    cases ho : o.dst with
    | none =>
      rw [ho] at h3
      exact wpPT_of_list rest (k + 1) L (fun o' ho' => hd o' (by simp [ho'])) h3
    | some d =>
      rw [ho] at h3
      have hdl := hd o (by simp) d ho
      have := wpPT_of_list rest (k + 1) (L.set d f) (fun o' ho' d' hd' => by rw [List.length_set]; exact hd o' (by simp [ho']) d' hd') h3
      rw [List.length_set, factAt_set L d f hdl] at this
      exact this

/-- **The region, at a frame that is written out**: the first k operations in whatever order, with the pivots K; the others behind them. -/
theorem wp_region_pk {id : Nat} {w : World} (k : Nat) (K : Kills) {l : List Oper} {vs : List Value} (he : Ext w0 w) (hm : P.follows .mixedOrders = true) (hB : orderB .any l.toArray vs.length = true) (hF : forcedB .any l (l.take k).length = true)
    (hR : readB .any l K = true) (hs : slotB l K = true) (hin : K.all (fun x => decide (x.1 < (l.take k).length) && x.2.all fun y => decide (y.1 < (l.take k).length)) = true) (hG : GOk l w0 K R G) (hPr : orderB .any l.toArray vs.length = true → PrOk .any l.toArray K R Pr) (hP0 : ∀ p, pivB K p = true → Pr p w)
    (h : wpPL P l.toArray Q w0 (l.drop k) ds K R G Pr (preP .any l K) (KeepsP .any l K R) 0 (l.take k) (vs.map Is)) : (Code.region id l.toArray true).wp P Q ⟨vs.toArray, ds⟩ w := by
  have hPr := hPr hB
  have hl := take_drop_eq k l
  generalize l.take k = init at *
  generalize l.drop k = tail at *
  subst hl
  refine wp_region_pT init tail K he hm (by simpa using hB) hF hR hs hin hG hPr hP0 ?_
  have hdst : ∀ o ∈ init, ∀ d, o.dst = some d → d < (vs.map Is).length := by
    intro o ho d hd
    obtain ⟨k, hk⟩ := List.getElem?_of_mem (show o ∈ init ++ tail by simp [ho])
    have := (orderB_spec (ops := (init ++ tail).toArray) hB (i := k) (j := k) (by simpa using hk) (by simpa using hk) hd).1
    simpa using this
  have h1 := wpPT_of_list init 0 (vs.map Is) hdst h
  have e : factAt (vs.map Is) = fun t => Is ((vs.toArray).getD t undef) := by
    funext t
    simp only [factAt, List.getD, List.getElem?_map]
    by_cases ht : t < vs.length
    · simp [ht]
    · simp [List.getElem?_eq_none (Nat.le_of_not_lt ht)]
  rw [e] at h1
  simpa using h1


section
variable {o : Oper} {rest : List Oper} {L : List Fact} {k : Nat}
theorem wpPL_step (f : Fact) (hf : f.stable) (hc : Kp k f) (hp : pivB K k = false) (hg : wantsB ops L o)
    (h1 : ∀ a w, Ext w0 w → (∀ p, pivB K p = true → pre p k = true → Pr p w) → Reads ops (factAt L) o a w → ∀ C : Act → World → Prop, (∀ v w', Ext w w' → f v w' → C (a.put o.dst v) w') → o.wp P a w C Q)
    (h : wpPL P ops Q w0 tail ds K R G Pr pre Kp (k + 1) rest (setL L o.dst f)) : wpPL P ops Q w0 tail ds K R G Pr pre Kp k (o :: rest) L :=
  ⟨f, hf, hc, fun a w he hp1 hr => by
    unfold StepP
    rw [if_pos (wants_of hg hr (fun d v => bool_at a d v))]
    exact fun C hC => h1 a w he hp1 hr C fun v w' he' hv => hC v w' (by unfold StepW; rw [hp]; exact he') hv (fun x hx hxi => by
      have : pivB K k = true := by unfold pivB; rw [List.any_eq_true]; exact ⟨x, hx, by simp [hxi]⟩
      rw [hp] at this; cases this), h⟩
/-- A pivot. -/
theorem wpPL_pivot (f : Fact) (hf : f.stable) (hc : Kp k f) (hp : pivB K k = true) (hg : wantsB ops L o)
    (h1 : ∀ a w, Ext w0 w → (∀ p, pivB K p = true → pre p k = true → Pr p w) → Reads ops (factAt L) o a w → ∀ C : Act → World → Prop, (∀ v w', R k w w' → f v w' → Turned K G k a w' → C (a.put o.dst v) w') → o.wp P a w C Q)
    (h : wpPL P ops Q w0 tail ds K R G Pr pre Kp (k + 1) rest (setL L o.dst f)) : wpPL P ops Q w0 tail ds K R G Pr pre Kp k (o :: rest) L :=
  ⟨f, hf, hc, fun a w he hp1 hr => by
    unfold StepP
    rw [if_pos (wants_of hg hr (fun d v => bool_at a d v))]
    exact fun C hC => h1 a w he hp1 hr C fun v w' he' => hC v w' (by unfold StepW; rw [hp]; exact he'), h⟩
theorem wpPL_det {v : Value} (hKi : ∀ k v, Kp k (Is v)) (hp : pivB K k = false) (hg : wantsB ops L o) (h1 : ∀ a w, Ext w0 w → (∀ p, pivB K p = true → pre p k = true → Pr p w) → Reads ops (factAt L) o a w → ∀ C : Act → World → Prop, (∀ w', Ext w w' → C (a.put o.dst v) w') → o.wp P a w C Q)
    (h : wpPL P ops Q w0 tail ds K R G Pr pre Kp (k + 1) rest (setL L o.dst (Is v))) : wpPL P ops Q w0 tail ds K R G Pr pre Kp k (o :: rest) L :=
  wpPL_step (Is v) (Is.stable v) (hKi k v) hp hg (fun a w he hp1 hr C hC => h1 a w he hp1 hr C fun w' he' => hC v w' he' rfl) h
theorem wpPL_move (t : Tmp) (f : Fact) (hp : pivB K k = false) (hg : wantsB ops L o) (ho : o.op = .move (.tmp t) ∨ o.op = .assign (.tmp t)) (hf : L.getD t (Is undef) = f) (hs : f.stable) (hc : Kp k f)
    (h : wpPL P ops Q w0 tail ds K R G Pr pre Kp (k + 1) rest (setL L o.dst f)) : wpPL P ops Q w0 tail ds K R G Pr pre Kp k (o :: rest) L := by
  subst hf
  refine wpPL_step _ hs hc hp hg (fun a w _ _ hr C hC => ?_) h
  have ht : factAt L t (a.tmps.getD t undef) w := hr t (by rcases ho with ho | ho <;> simp [Oper.looksAt, ho, Op.operands])
  have h1 := hC _ w (Ext.refl w) ht
  unfold Oper.wp
  rcases ho with ho | ho
  · rw [BigFrame.run_move _ ho]; exact h1
  · rw [BigFrame.run_assign _ ho]; exact h1
end
end
end Dsd.Pre
