/- A region that draws its order and whose operations make memory (a new slice's address hangs on the order): ONE walk of the lexical order serves every order, where what is known of each slot is a fact that stands as the world grows. Over any program. -/
import Derived.Test.YtmnpappbacndlaaGreatDoorBase
import Derived.Still
set_option linter.unusedSimpArgs false
set_option linter.unusedVariables false
namespace Dsd
open Go Go.RowKit

/-- What is known of a slot's value in a world. -/
abbrev Fact := Value → World → Prop
def Is (v : Value) : Fact := fun x _ => x = v
def Fact.stable (f : Fact) : Prop := ∀ x w w', Ext w w' → f x w → f x w'
theorem Is.stable (v : Value) : (Is v).stable := fun _ _ _ _ h => h

section
variable {P : Program} {ops : Array Oper} {md : Region.Mode} {Q : Exit → Act → World → Prop} {w0 : World} {n : Nat} {ds : List Deferred}

/-- The facts on the slots that an operation looks at. -/
def Reads (ops : Array Oper) (S : Nat → Fact) (o : Oper) (a : Act) (w : World) : Prop := ∀ t ∈ o.looksAt ops, S t (a.tmps.getD t undef) w
/-- An operation carried out in a frame and a world: it leaves a value of which f is true, and a world that has grown. -/
def StepTo (P : Program) (ops : Array Oper) (Q : Exit → Act → World → Prop) (f : Fact) (o : Oper) (a : Act) (w : World) : Prop :=
  if Region.wanted o (yielded ops a.tmps) then ∀ K : Act → World → Prop, (∀ v w', Ext w w' → f v w' → K (a.put o.dst v) w') → o.wp P a w K Q else f undef w
def upd (S : Nat → Fact) (d : Option Tmp) (f : Fact) : Nat → Fact := match d with
  | some d => fun t => if t = d then f else S t
  | none => S
/-- The walk, in the order of the text. -/
def wpMono (P : Program) (ops : Array Oper) (Q : Exit → Act → World → Prop) (w0 : World) (n : Nat) (ds : List Deferred) : List Oper → (Nat → Fact) → Prop
  | [], S => ∀ a w, Ext w0 w → a.defers = ds → a.tmps.size = n → (∀ t, t < n → S t (a.tmps.getD t undef) w) → Q .normal a w
  | o :: rest, S => ∃ f : Fact, f.stable ∧ (∀ a w, Ext w0 w → Reads ops S o a w → StepTo P ops Q f o a w) ∧ wpMono P ops Q w0 n ds rest (upd S o.dst f)

theorem wpMono_steps : ∀ (l : List Oper) (k : Nat) (S0 : Nat → Fact), (∀ j, l[j]? = ops[k + j]?) → wpMono P ops Q w0 n ds l S0 →
    ∃ (S : Nat → Nat → Fact) (F : Nat → Fact), S k = S0 ∧ (∀ i, (F i).stable) ∧ (∀ i o, k ≤ i → ops[i]? = some o → ∀ a w, Ext w0 w → Reads ops (S i) o a w → StepTo P ops Q (F i) o a w) ∧
      (∀ i o, k ≤ i → ops[i]? = some o → S (i + 1) = upd (S i) o.dst (F i)) ∧
      (∀ a w, Ext w0 w → a.defers = ds → a.tmps.size = n → (∀ t, t < n → S (k + l.length) t (a.tmps.getD t undef) w) → Q .normal a w)
  | [], k, S0, hl, h => by
    refine ⟨fun _ => S0, fun _ => Is undef, rfl, fun _ => Is.stable _, ?_, ?_, h⟩
    · intro i o hi ho
      have := hl (i - k)
      rw [show k + (i - k) = i by omega, ho] at this
      simp at this
    · intro i o hi ho
      have := hl (i - k)
      rw [show k + (i - k) = i by omega, ho] at this
      simp at this
  | o :: rest, k, S0, hl, h => by
    obtain ⟨f, hf, hs, hr⟩ := h
    obtain ⟨S, F, h0, h1, h2, h3, h4⟩ := wpMono_steps rest (k + 1) _ (fun j => by have := hl (j + 1); simpa [Nat.add_assoc, Nat.add_comm 1 j] using this) hr
    have ho : ops[k]? = some o := by simpa using (hl 0).symm
    refine ⟨fun i => if i ≤ k then S0 else S i, fun i => if i ≤ k then f else F i, by simp, fun i => by dsimp only; split <;> first | exact hf | exact h1 i, ?_, ?_, ?_⟩
    · intro i o' hi ho'
      by_cases hik : i = k
      · subst hik
        rw [ho] at ho'
        obtain rfl := Option.some.inj ho'
        simpa using hs
      · have : ¬ i ≤ k := by omega
        simpa [this] using h2 i o' (by omega) ho'
    · intro i o' hi ho'
      by_cases hik : i = k
      · subst hik
        rw [ho] at ho'
        obtain rfl := Option.some.inj ho'
        have : ¬ i + 1 ≤ i := by omega
        simp only [this, if_false, Nat.le_refl, if_true]
        exact h0
      · have h5 : ¬ i ≤ k := by omega
        have h6 : ¬ i + 1 ≤ k := by omega
        simpa [h5, h6] using h3 i o' (by omega) ho'
    · have h5 : ¬ k + (rest.length + 1) ≤ k := by omega
      simp only [List.length_cons, h5, if_false]
      rw [show k + (rest.length + 1) = k + 1 + rest.length by omega]
      exact h4

/-- What the order must bear: no slot is written twice; who reads a slot that is written before it in the text waits for it; who writes a slot that is read before it waits for the reader. -/
def orderB (md : Region.Mode) (ops : Array Oper) (n : Nat) : Bool :=
  ((List.range ops.size).all fun i => (ops.getD i default).after.all fun e => !Region.binds md e || decide (e.on < i)) &&
  (List.range ops.size).all fun i => (List.range ops.size).all fun j =>
    let oi := ops.getD i default
    let oj := ops.getD j default
    match oj.dst with
    | none => true
    | some d => decide (d < n) && (i == j || oi.dst != some d) &&
      (!(oi.looksAt ops).contains d || (if j < i then oi.after.any fun e => e.on == j && Region.binds md e else if i < j then oj.after.any fun e => e.on == i && Region.binds md e else true))

theorem orderB_spec (h : orderB md ops n = true) {i j : Nat} {oi oj : Oper} {d : Tmp} (hi : ops[i]? = some oi) (hj : ops[j]? = some oj) (hd : oj.dst = some d) :
    d < n ∧ (i ≠ j → oi.dst ≠ some d) ∧ (d ∈ oi.looksAt ops → (j < i → ∃ e ∈ oi.after, e.on = j ∧ Region.binds md e = true) ∧ (i < j → ∃ e ∈ oj.after, e.on = i ∧ Region.binds md e = true)) := by
  have hil := (Array.getElem?_eq_some_iff.1 hi).1
  have hjl := (Array.getElem?_eq_some_iff.1 hj).1
  unfold orderB at h
  rw [Bool.and_eq_true, List.all_eq_true, List.all_eq_true] at h
  have h1 := h.2 i (by simpa using hil)
  rw [List.all_eq_true] at h1
  have h2 := h1 j (by simpa using hjl)
  have ei : ops.getD i default = oi := by simp [hi]
  have ej : ops.getD j default = oj := by simp [hj]
  simp only [ei, ej, hd, Bool.and_eq_true, decide_eq_true_eq, Bool.or_eq_true, beq_iff_eq, bne_iff_ne] at h2
  obtain ⟨⟨h3, h4⟩, h5⟩ := h2
  refine ⟨h3, fun hne => h4.resolve_left hne, fun hr => ?_⟩
  have h6 := h5.resolve_left (by simp [hr])
  refine ⟨fun hlt => ?_, fun hlt => ?_⟩
  · rw [if_pos hlt] at h6
    obtain ⟨k, hk, hk2⟩ := Array.any_eq_true.1 h6
    simp at hk2
    exact ⟨_, Array.getElem_mem hk, hk2.1, hk2.2⟩
  · rw [if_neg (by omega), if_pos hlt] at h6
    obtain ⟨k, hk, hk2⟩ := Array.any_eq_true.1 h6
    simp at hk2
    exact ⟨_, Array.getElem_mem hk, hk2.1, hk2.2⟩

section
variable {S : Nat → Nat → Fact} {F : Nat → Fact}

/-- What stands of frame and world when the operations in 'listed' have come up. -/
structure MInv (md : Region.Mode) (ops : Array Oper) (w0 : World) (n : Nat) (ds : List Deferred) (S : Nat → Nat → Fact) (F : Nat → Fact) (listed : Array Bool) (a : Act) (w : World) : Prop where
  ext : Ext w0 w
  defers : a.defers = ds
  size : a.tmps.size = n
  done : ∀ j o d, ops[j]? = some o → o.dst = some d → listed.getD j false = true → F j (a.tmps.getD d undef) w
  wait : ∀ j o d, ops[j]? = some o → o.dst = some d → listed.getD j false = false → S 0 d (a.tmps.getD d undef) w
  other : ∀ d, (∀ (j : Nat) (o : Oper), ops[j]? = some o → o.dst ≠ some d) → S 0 d (a.tmps.getD d undef) w
  closed : ∀ j o e, ops[j]? = some o → listed.getD j false = true → e ∈ o.after → Region.binds md e = true → listed.getD e.on false = true

theorem S_other (hnext : ∀ i o, ops[i]? = some o → S (i + 1) = upd (S i) o.dst (F i)) (t : Tmp) : ∀ i, i ≤ ops.size → (∀ (j : Nat) (o : Oper), j < i → ops[j]? = some o → o.dst ≠ some t) → S i t = S 0 t
  | 0, _, _ => rfl
  | i + 1, hi, h => by
    have ho : ops[i]? = some ops[i] := Array.getElem?_eq_getElem (by omega)
    rw [hnext i _ ho, ← S_other hnext t i (by omega) (fun j o hj => h j o (by omega))]
    have := h i _ (by omega) ho
    unfold upd
    cases hd : ops[i].dst with
    | none => rfl
    | some d => simp only; rw [if_neg (by intro he; subst he; exact this hd)]

theorem S_writer (hnext : ∀ i o, ops[i]? = some o → S (i + 1) = upd (S i) o.dst (F i)) (hB : orderB md ops n = true) {j : Nat} {oj : Oper} {t : Tmp} (hj : ops[j]? = some oj) (hd : oj.dst = some t) :
    ∀ i, i ≤ ops.size → j < i → S i t = F j := by
  intro i
  induction i with
  | zero => intro _ h; omega
  | succ i ih =>
    intro hi hji
    have ho : ops[i]? = some ops[i] := Array.getElem?_eq_getElem (by omega)
    rw [hnext i _ ho]
    by_cases hij : i = j
    · subst hij
      rw [hj] at ho
      rw [← Option.some.inj ho]
      simp [upd, hd]
    · have h1 := ih (by omega) (by omega)
      have h2 := (orderB_spec hB ho hj hd).2.1 hij
      unfold upd
      cases hd' : ops[i].dst with
      | none => exact h1
      | some d => simp only; rw [if_neg (by intro he; subst he; exact h2 hd')]; exact h1

theorem reads_of (hnext : ∀ i o, ops[i]? = some o → S (i + 1) = upd (S i) o.dst (F i)) (hB : orderB md ops n = true) {listed : Array Bool} {a : Act} {w : World} (h : MInv md ops w0 n ds S F listed a w)
    {i : Nat} {o : Oper} (ho : ops[i]? = some o) (hr : i ∈ Region.ready md ops listed) (hls : listed.size = ops.size) : Reads ops (S i) o a w := by
  intro t ht
  have hil := (Array.getElem?_eq_some_iff.1 ho).1
  obtain ⟨hun, o', ho', hall⟩ := mem_ready.1 hr
  obtain rfl := Option.some.inj (ho.symm.trans ho')
  have hunf : listed.getD i false = false := by
    have h1 : i < listed.size := by omega
    simp [h1] at hun ⊢; exact hun
  by_cases hw : ∃ (j : Nat) (oj : Oper), ops[j]? = some oj ∧ oj.dst = some t
  · obtain ⟨j, oj, hj, hd⟩ := hw
    have hspec := (orderB_spec hB ho hj hd).2.2 ht
    have hjl := (Array.getElem?_eq_some_iff.1 hj).1
    by_cases hji : j < i
    · rw [S_writer hnext hB hj hd i (by omega) hji]
      obtain ⟨e, he, heo, heb⟩ := hspec.1 hji
      exact h.done j oj t hj hd (by rw [← heo]; exact hall e he heb)
    · rw [S_other hnext t i (by omega) (fun k ok hk hok hkd => (orderB_spec hB hok hj hd).2.1 (by omega) hkd)]
      refine h.wait j oj t hj hd ?_
      by_cases hij : i = j
      · subst hij; exact hunf
      · obtain ⟨e, he, heo, heb⟩ := hspec.2 (by omega)
        cases hlj : listed.getD j false with
        | false => rfl
        | true =>
          have := h.closed j oj e hj hlj he heb
          rw [heo, hunf] at this
          cases this
  · rw [S_other hnext t i (by omega) (fun k ok _ hok hkd => hw ⟨k, ok, hok, hkd⟩)]
    exact h.other t (fun k ok hok hkd => hw ⟨k, ok, hok, hkd⟩)

theorem getD_put (a : Act) (dst : Option Tmp) (v : Value) (t : Tmp) (h : dst ≠ some t) : (a.put dst v).tmps.getD t undef = a.tmps.getD t undef := by
  cases dst with
  | none => rfl
  | some d => have : d ≠ t := fun e => h (by rw [e]); simp [Act.put, Array.getElem?_setIfInBounds_ne this]
theorem getD_put_same (a : Act) (d : Tmp) (v : Value) (h : d < a.tmps.size) : (a.put (some d) v).tmps.getD d undef = v := by simp [Act.put, h]
theorem size_put (a : Act) (dst : Option Tmp) (v : Value) : (a.put dst v).tmps.size = a.tmps.size := by cases dst <;> simp [Act.put]
theorem defers_put (a : Act) (dst : Option Tmp) (v : Value) : (a.put dst v).defers = a.defers := by cases dst <;> rfl

theorem MInv.put (hF : ∀ i, (F i).stable) (hS : ∀ t, (S 0 t).stable) (hB : orderB md ops n = true) {listed : Array Bool} {a : Act} {w w' : World} (h : MInv md ops w0 n ds S F listed a w) {i : Nat} {o : Oper} (ho : ops[i]? = some o)
    (hr : i ∈ Region.ready md ops listed) (hls : listed.size = ops.size) {v : Value} (he : Ext w w') (hv : F i v w') : MInv md ops w0 n ds S F (listed.setIfInBounds i true) (a.put o.dst v) w' := by
  have hil := (Array.getElem?_eq_some_iff.1 ho).1
  obtain ⟨hun, o', ho', hall⟩ := mem_ready.1 hr
  obtain rfl := Option.some.inj (ho.symm.trans ho')
  refine ⟨h.ext.trans he, by rw [defers_put]; exact h.defers, by rw [size_put]; exact h.size, ?_, ?_, ?_, ?_⟩
  · intro j oj d hj hd hl
    by_cases hij : i = j
    · subst hij
      obtain rfl := Option.some.inj (ho.symm.trans hj)
      rw [hd, getD_put_same _ _ _ (by rw [h.size]; exact (orderB_spec hB ho ho hd).1)]
      exact hv
    · rw [getD_put _ _ _ _ ((orderB_spec hB ho hj hd).2.1 hij)]
      rw [getD_set_ne false hij] at hl
      exact hF j _ _ _ he (h.done j oj d hj hd hl)
  · intro j oj d hj hd hl
    by_cases hij : i = j
    · subst hij
      have h1 : i < listed.size := by omega
      simp [h1] at hl
    · rw [getD_put _ _ _ _ ((orderB_spec hB ho hj hd).2.1 hij)]
      rw [getD_set_ne false hij] at hl
      exact hS d _ _ _ he (h.wait j oj d hj hd hl)
  · intro d hd
    rw [getD_put _ _ _ _ (hd i o ho)]
    exact hS d _ _ _ he (h.other d hd)
  · intro j oj e hj hl hea heb
    by_cases hij : i = j
    · subst hij
      obtain rfl := Option.some.inj (ho.symm.trans hj)
      exact getD_set_true (hall e hea heb)
    · rw [getD_set_ne false hij] at hl
      exact getD_set_true (h.closed j oj e hj hl hea heb)

theorem orderB_back (h : orderB md ops n = true) {i : Nat} {oi : Oper} (hi : ops[i]? = some oi) {e : Edge} (he : e ∈ oi.after) (hb : Region.binds md e = true) : e.on < i := by
  have hil := (Array.getElem?_eq_some_iff.1 hi).1
  unfold orderB at h
  rw [Bool.and_eq_true, List.all_eq_true, List.all_eq_true] at h
  have h1 := h.1 i (by simpa using hil)
  have ei : ops.getD i default = oi := by simp [hi]
  rw [ei] at h1
  obtain ⟨k, hk, rfl⟩ := Array.mem_iff_getElem.1 he
  have := Array.all_eq_true.1 h1 k hk
  simpa [hb] using this

theorem countP_lt (p q : Nat → Bool) (i : Nat) : ∀ (l : List Nat), (∀ x ∈ l, q x = true → p x = true) → i ∈ l → p i = true → q i = false → l.countP q < l.countP p
  | [], _, hi, _, _ => by cases hi
  | x :: l, hpq, hi, h1, h2 => by
    have hmono : l.countP q ≤ l.countP p := List.countP_mono_left (fun y hy => hpq y (by simp [hy]))
    by_cases hx : x = i
    · subst hx
      rw [List.countP_cons_of_pos h1, List.countP_cons_of_neg (by simp [h2])]
      omega
    · have ih := countP_lt p q i l (fun y hy => hpq y (by simp [hy])) (by simpa [Ne.symm hx] using hi) h1 h2
      rw [List.countP_cons, List.countP_cons]
      have := hpq x (by simp)
      by_cases hqx : q x = true
      · simp [hqx, this hqx]; omega
      · simp [hqx]; omega

theorem all_listed (hB : orderB md ops n = true) {listed : Array Bool} (h : Region.ready md ops listed = []) (hls : listed.size = ops.size) : ∀ k i, i < k → i < ops.size → listed.getD i false = true
  | 0, i, hi, _ => by omega
  | k + 1, i, hi, hil => by
    by_cases hik : i < k
    · exact all_listed hB h hls k i hik hil
    · obtain rfl : i = k := by omega
      have ih := all_listed hB h hls i
      cases hu : listed.getD i false with
      | true => rfl
      | false =>
        have hmem : i ∈ Region.ready md ops listed := by
          rw [mem_ready]
          have h1 : i < listed.size := by omega
          refine ⟨by simp [h1] at hu ⊢; exact hu, ops[i], Array.getElem?_eq_getElem hil, fun e he hb => ?_⟩
          have hlt := orderB_back hB (Array.getElem?_eq_getElem hil) he hb
          exact ih e.on hlt (by omega)
        rw [h] at hmem
        cases hmem

theorem wpAny_mono (hF : ∀ i, (F i).stable) (hS : ∀ t, (S 0 t).stable) (hnext : ∀ i o, ops[i]? = some o → S (i + 1) = upd (S i) o.dst (F i)) (hB : orderB md ops n = true)
    (hstep : ∀ i o, ops[i]? = some o → ∀ a w, Ext w0 w → Reads ops (S i) o a w → StepTo P ops Q (F i) o a w)
    (hend : ∀ a w, Ext w0 w → a.defers = ds → a.tmps.size = n → (∀ t, t < n → S ops.size t (a.tmps.getD t undef) w) → Q .normal a w) :
    ∀ (fuel : Nat) (listed : Array Bool) (a : Act) (w : World), listed.size = ops.size → (List.range ops.size).countP (fun i => !listed.getD i false) ≤ fuel →
      MInv md ops w0 n ds S F listed a w → wpAny P md ops Q fuel listed a w := by
  have fin : ∀ (listed : Array Bool) (a : Act) (w : World), listed.size = ops.size → Region.ready md ops listed = [] → MInv md ops w0 n ds S F listed a w → Q .normal a w := by
    intro listed a w hls hr h
    have hall := all_listed hB hr hls ops.size
    refine hend a w h.ext h.defers h.size fun t ht => ?_
    by_cases hw : ∃ (j : Nat) (oj : Oper), ops[j]? = some oj ∧ oj.dst = some t
    · obtain ⟨j, oj, hj, hd⟩ := hw
      have hjl := (Array.getElem?_eq_some_iff.1 hj).1
      rw [S_writer hnext hB hj hd ops.size (Nat.le_refl _) hjl]
      exact h.done j oj t hj hd (hall j hjl hjl)
    · rw [S_other hnext t ops.size (Nat.le_refl _) (fun k ok _ hok hkd => hw ⟨k, ok, hok, hkd⟩)]
      exact h.other t (fun k ok hok hkd => hw ⟨k, ok, hok, hkd⟩)
  intro fuel
  induction fuel with
  | zero =>
    intro listed a w hls hc h
    have hr : Region.ready md ops listed = [] := by
      rw [List.eq_nil_iff_forall_not_mem]
      intro i hi
      obtain ⟨hun, o, ho, _⟩ := mem_ready.1 hi
      have hil := (Array.getElem?_eq_some_iff.1 ho).1
      have h1 : i < listed.size := by omega
      have h0 : (List.range ops.size).countP (fun i => !listed.getD i false) = 0 := by omega
      rw [List.countP_eq_zero] at h0
      have := h0 i (by simpa using hil)
      simp [h1] at hun this
      rw [hun] at this; cases this
    exact ⟨hr, fin listed a w hls hr h⟩
  | succ fuel ih =>
    intro listed a w hls hc h
    refine ⟨fun hr => fin listed a w hls hr h, fun i hi => ?_⟩
    obtain ⟨hun, o, ho, _⟩ := mem_ready.1 hi
    have hil := (Array.getElem?_eq_some_iff.1 ho).1
    have h1 : i < listed.size := by omega
    have hcnt : (List.range ops.size).countP (fun j => !(listed.setIfInBounds i true).getD j false) ≤ fuel := by
      have := countP_lt (fun j => !listed.getD j false) (fun j => !(listed.setIfInBounds i true).getD j false) i (List.range ops.size) (fun x _ hx => by
        by_cases hxi : i = x
        · subst hxi; simp [h1] at hx
        · rwa [getD_set_ne false hxi] at hx) (by simpa using hil) (by simp [h1] at hun ⊢; exact hun) (by simp [h1])
      omega
    have hs := hstep i o ho a w h.ext (reads_of hnext hB h ho hi hls)
    unfold StepTo at hs
    unfold wpOp
    simp only [ho]
    split
    · rename_i hw
      rw [if_pos hw] at hs
      exact .inl (hs _ fun v w' he hv => ih _ _ _ (by simpa using hls) hcnt (h.put hF hS hB ho hi hls he hv))
    · rename_i hw
      rw [if_neg hw] at hs
      exact ih _ _ _ (by simpa using hls) hcnt (h.put hF hS hB ho hi hls (Ext.refl w) hs)
end

/-- **ONE WALK OF THE LEXICAL ORDER**, what is known of each slot being a fact that stands as the world grows. -/
theorem wp_region_mono {id : Nat} {a : Act} {w : World} {l : List Oper} (he : Ext w0 w) (hm : P.follows .mixedOrders = true) (hB : orderB .any l.toArray a.tmps.size = true)
    (h : wpMono P l.toArray Q w0 a.tmps.size a.defers l (fun t => Is (a.tmps.getD t undef))) : (Code.region id l.toArray true).wp P Q a w := by
  obtain ⟨S, F, h0, h1, h2, h3, h4⟩ := wpMono_steps l 0 _ (fun j => by simp) h
  refine wp_region_any hm (wpAny_mono (md := .any) h1 (fun t => by rw [h0]; exact Is.stable _) (fun i o => h3 i o (Nat.zero_le _)) hB (fun i o => h2 i o (Nat.zero_le _)) (fun a w => by simpa using h4 a w) _ _ _ _ (by simp) ?_ ?_)
  · have := List.countP_le_length (p := fun i => !(Array.replicate l.toArray.size false).getD i false) (l := List.range l.toArray.size)
    simpa using this
  · refine ⟨he.trans (Ext.drew w), rfl, rfl, ?_, ?_, ?_, ?_⟩
    · intro j o d hj hd hl
      simp [Array.getElem?_replicate] at hl
      split at hl <;> simp at hl
    · intro j o d hj hd hl
      rw [h0]; rfl
    · intro d _
      rw [h0]; rfl
    · intro j o e hj hl
      simp [Array.getElem?_replicate] at hl
      split at hl <;> simp at hl

/-! ### A tail of operations in one forced order, behind those that may come up in whatever order -/
def Closed (md : Region.Mode) (ops : Array Oper) (listed : Array Bool) : Prop := ∀ j o e, ops[j]? = some o → listed.getD j false = true → e ∈ o.after → Region.binds md e = true → listed.getD e.on false = true
/-- Where all that operation k waits for has come up, i has. -/
def Must (md : Region.Mode) (ops : Array Oper) (i k : Nat) : Prop := ∀ (o : Oper) (listed : Array Bool), ops[k]? = some o → Closed md ops listed → (∀ e ∈ o.after, Region.binds md e = true → listed.getD e.on false = true) → listed.getD i false = true
def maskOf (md : Region.Mode) (acc : List Nat) : List Edge → Nat → Nat
  | [], s => s
  | e :: es, s => maskOf md acc es (if Region.binds md e then s ||| 2 ^ e.on ||| acc.getD e.on 0 else s)
def masks (md : Region.Mode) : List Oper → List Nat → List Nat
  | [], acc => acc
  | o :: rest, acc => masks md rest (acc ++ [maskOf md acc o.after.toList 0])
/-- The operations from place k on wait for all before them. -/
def forcedB (md : Region.Mode) (l : List Oper) (k : Nat) : Bool := (List.range l.length).all fun j => decide (j < k) || (List.range j).all fun i => ((masks md l []).getD j 0).testBit i

theorem maskOf_must (ops : Array Oper) (acc : List Nat) (hacc : ∀ k i, (acc.getD k 0).testBit i = true → Must md ops i k) (k : Nat) (o : Oper) (ho : ops[k]? = some o) (hlt : ∀ e ∈ o.after, Region.binds md e = true → ∃ oe, ops[e.on]? = some oe) :
    ∀ (es : List Edge) (s : Nat), (∀ e ∈ es, e ∈ o.after) → (∀ i, s.testBit i = true → Must md ops i k) → ∀ i, (maskOf md acc es s).testBit i = true → Must md ops i k
  | [], s, _, hs, i, h => hs i h
  | e :: es, s, he, hs, i, h => by
    refine maskOf_must ops acc hacc k o ho hlt es _ (fun x hx => he x (by simp [hx])) ?_ i h
    intro i hi
    split at hi
    · rename_i hb
      rw [Nat.testBit_or, Nat.testBit_or, Bool.or_eq_true, Bool.or_eq_true] at hi
      rcases hi with (hi | hi) | hi
      · exact hs i hi
      · have : i = e.on := by rw [Nat.testBit_two_pow] at hi; simpa using (of_decide_eq_true hi).symm
        subst this
        intro o' listed ho' _ hall
        obtain rfl := Option.some.inj (ho.symm.trans ho')
        exact hall e (he e (by simp)) hb
      · intro o' listed ho' hcl hall
        obtain rfl := Option.some.inj (ho.symm.trans ho')
        have hle := hall e (he e (by simp)) hb
        obtain ⟨oe, hoe⟩ := hlt e (he e (by simp)) hb
        exact hacc e.on i hi oe listed hoe hcl (fun e' he' hb' => hcl e.on oe e' hoe hle he' hb')
    · exact hs i hi

theorem masks_must (ops : Array Oper) (hB : orderB md ops n = true) : ∀ (l : List Oper) (acc : List Nat), (∀ j, l[j]? = ops[acc.length + j]?) → (∀ k i, (acc.getD k 0).testBit i = true → Must md ops i k) → ∀ k i, ((masks md l acc).getD k 0).testBit i = true → Must md ops i k
  | [], acc, _, h => h
  | o :: rest, acc, hl, h => by
    have ho : ops[acc.length]? = some o := by simpa using (hl 0).symm
    refine masks_must ops hB rest _ (fun j => by have := hl (j + 1); simpa [Nat.add_assoc, Nat.add_comm 1 j] using this) ?_
    intro k i hk
    by_cases hkl : k < acc.length
    · have e : (acc ++ [maskOf md acc o.after.toList 0]).getD k 0 = acc.getD k 0 := by simp [List.getD, List.getElem?_append_left hkl]
      rw [e] at hk
      exact h k i hk
    · by_cases hke : k = acc.length
      · subst hke
        have e : (acc ++ [maskOf md acc o.after.toList 0]).getD acc.length 0 = maskOf md acc o.after.toList 0 := by simp [List.getD]
        rw [e] at hk
        refine maskOf_must ops acc h _ o ho (fun e he hb => ?_) _ 0 (fun e he => by simpa using he) (by simp) i hk
        have hlt := orderB_back hB ho he hb
        have := (Array.getElem?_eq_some_iff.1 ho).1
        exact ⟨ops[e.on], Array.getElem?_eq_getElem (by omega)⟩
      · have e : (acc ++ [maskOf md acc o.after.toList 0]).getD k 0 = 0 := by simp [List.getD]; rw [List.getElem?_eq_none (by simp; omega)]; rfl
        rw [e] at hk
        simp at hk

theorem forcedB_spec {l : List Oper} {k : Nat} (hB : orderB md l.toArray n = true) (h : forcedB md l k = true) {j i : Nat} (hj : j < l.length) (hk : k ≤ j) (hi : i < j) : Must md l.toArray i j := by
  unfold forcedB at h
  rw [List.all_eq_true] at h
  have h1 := h j (by simpa using hj)
  rw [Bool.or_eq_true, List.all_eq_true] at h1
  have h2 := (h1.resolve_left (by simp; omega)) i (by simpa using hi)
  exact masks_must l.toArray hB l [] (by simp) (by simp) j i h2

section
variable {S : Nat → Nat → Fact} {F : Nat → Fact}
/-- The tail, in its order. -/
theorem wpAny_tail (init tail : List Oper) (hB : orderB md (init ++ tail).toArray n = true) (hF : forcedB md (init ++ tail) init.length = true) :
    ∀ (m : Nat) (rest : List Oper) (fuel : Nat) (listed : Array Bool) (a : Act) (w : World), rest.length = m → (∃ pre, tail = pre ++ rest ∧ ∀ i, listed.getD i false = decide (i < init.length + pre.length)) → listed.size = (init ++ tail).length → m ≤ fuel →
      wpList P (init ++ tail).toArray Q rest a w → wpAny P md (init ++ tail).toArray Q fuel listed a w := by
  intro m
  induction m with
  | zero =>
    intro rest fuel listed a w hm ⟨pre, ht, hl⟩ hls _ h
    have : rest = [] := List.eq_nil_of_length_eq_zero hm
    subst this
    have hr : Region.ready md (init ++ tail).toArray listed = [] := by
      rw [List.eq_nil_iff_forall_not_mem]
      intro i hi
      obtain ⟨hun, o, ho, _⟩ := mem_ready.1 hi
      have hil := (Array.getElem?_eq_some_iff.1 ho).1
      have h1 : i < listed.size := by simp at hil hls; omega
      have h2 := hl i
      simp [h1] at hun h2
      rw [hun] at h2
      subst ht
      simp at hil h2
      omega
    cases fuel with
    | zero => exact ⟨hr, h⟩
    | succ fuel => exact ⟨fun _ => h, fun i hi => by rw [hr] at hi; cases hi⟩
  | succ m ih =>
    intro rest fuel listed a w hm ⟨pre, ht, hl⟩ hls hfu h
    obtain ⟨o, rest, rfl⟩ : ∃ o r, rest = o :: r := by cases rest with
      | nil => simp at hm
      | cons o r => exact ⟨o, r, rfl⟩
    obtain ⟨fuel, rfl⟩ : ∃ f, fuel = f + 1 := ⟨fuel - 1, by omega⟩
    have hk : (init ++ tail).toArray[init.length + pre.length]? = some o := by subst ht; simp
    have hkl := (Array.getElem?_eq_some_iff.1 hk).1
    have hcl : Closed md (init ++ tail).toArray listed := fun j oj e hj hlj he hb => by
      rw [hl] at hlj ⊢
      have := orderB_back hB hj he hb
      simp at hlj ⊢; omega
    have hnr : ∀ i ∈ Region.ready md (init ++ tail).toArray listed, i = init.length + pre.length := by
      intro i hi
      obtain ⟨hun, oi, hoi, hall⟩ := mem_ready.1 hi
      have hil := (Array.getElem?_eq_some_iff.1 hoi).1
      have h1 : i < listed.size := by simp at hil hls; omega
      have h2 := hl i
      simp [h1] at hun h2
      rw [hun] at h2
      simp at h2
      by_cases hgt : init.length + pre.length < i
      · have := forcedB_spec hB hF (by simpa using hil) (by omega) hgt oi listed hoi hcl hall
        rw [hl] at this
        simp at this
      · omega
    refine ⟨fun hr => ?_, fun i hi => ?_⟩
    · have hmem : init.length + pre.length ∈ Region.ready md (init ++ tail).toArray listed := by
        rw [mem_ready]
        have h1 : init.length + pre.length < listed.size := by simp at hkl hls; omega
        have h2 := hl (init.length + pre.length)
        refine ⟨by simp [h1] at h2 ⊢; exact h2, o, hk, fun e he hb => ?_⟩
        have := orderB_back hB hk he hb
        rw [hl]; simpa using this
      rw [hr] at hmem
      cases hmem
    · obtain rfl := hnr i hi
      have h' : wpOp P (init ++ tail).toArray Q (init.length + pre.length) (wpList P (init ++ tail).toArray Q rest) a w := by
        unfold wpOp
        simp only [hk]
        exact h
      refine wpOp_mono (fun a' w' h2 => ih rest fuel _ a' w' (by simpa using hm) ⟨pre ++ [o], by simp [ht], fun i => ?_⟩ (by simpa using hls) (by omega) h2) h'
      by_cases hik : init.length + pre.length = i
      · subst hik
        have h1 : init.length + pre.length < listed.size := by simp at hkl hls; omega
        simp [h1]
      · rw [getD_set_ne false hik, hl]
        simp
        omega

theorem wpAny_mono_tail (init tail : List Oper) (hF' : forcedB md (init ++ tail) init.length = true) (hF : ∀ i, (F i).stable) (hS : ∀ t, (S 0 t).stable) (hB : orderB md (init ++ tail).toArray n = true)
    (hnext : ∀ i o, (init ++ tail).toArray[i]? = some o → S (i + 1) = upd (S i) o.dst (F i))
    (hstep : ∀ i o, i < init.length → (init ++ tail).toArray[i]? = some o → ∀ a w, Ext w0 w → Reads (init ++ tail).toArray (S i) o a w → StepTo P (init ++ tail).toArray Q (F i) o a w)
    (hend : ∀ a w, Ext w0 w → a.defers = ds → a.tmps.size = n → (∀ t, t < n → S init.length t (a.tmps.getD t undef) w) → wpList P (init ++ tail).toArray Q tail a w) :
    ∀ (fuel : Nat) (listed : Array Bool) (a : Act) (w : World), listed.size = (init ++ tail).length → (List.range init.length).countP (fun i => !listed.getD i false) + tail.length ≤ fuel → (∀ i, init.length ≤ i → listed.getD i false = false) →
      MInv md (init ++ tail).toArray w0 n ds S F listed a w → wpAny P md (init ++ tail).toArray Q fuel listed a w := by
  intro fuel
  have start : ∀ (fuel : Nat) (listed : Array Bool) (a : Act) (w : World), listed.size = (init ++ tail).length → tail.length ≤ fuel → (∀ i, i < init.length → listed.getD i false = true) → (∀ i, init.length ≤ i → listed.getD i false = false) →
      MInv md (init ++ tail).toArray w0 n ds S F listed a w → wpAny P md (init ++ tail).toArray Q fuel listed a w := by
    intro fuel listed a w hls hfu hall hnone h
    refine wpAny_tail init tail hB hF' tail.length tail fuel listed a w rfl ⟨[], by simp, fun i => ?_⟩ hls hfu ?_
    · by_cases hi : i < init.length
      · rw [hall i hi]; simp [hi]
      · rw [hnone i (by omega)]; simp [hi]
    · refine hend a w h.ext h.defers h.size fun t ht => ?_
      by_cases hw : ∃ (j : Nat) (oj : Oper), (init ++ tail).toArray[j]? = some oj ∧ oj.dst = some t
      · obtain ⟨j, oj, hj, hd⟩ := hw
        have hjl := (Array.getElem?_eq_some_iff.1 hj).1
        by_cases hji : j < init.length
        · rw [S_writer hnext hB hj hd init.length (by simp) hji]
          exact h.done j oj t hj hd (hall j hji)
        · rw [S_other hnext t init.length (by simp) (fun k ok hk hok hkd => (orderB_spec hB hok hj hd).2.1 (by omega) hkd)]
          exact h.wait j oj t hj hd (hnone j (by omega))
      · rw [S_other hnext t init.length (by simp) (fun k ok _ hok hkd => hw ⟨k, ok, hok, hkd⟩)]
        exact h.other t (fun k ok hok hkd => hw ⟨k, ok, hok, hkd⟩)
  induction fuel with
  | zero =>
    intro listed a w hls hc hnone h
    refine start 0 listed a w hls (by omega) (fun i hi => ?_) hnone h
    have h0 : (List.range init.length).countP (fun i => !listed.getD i false) = 0 := by omega
    rw [List.countP_eq_zero] at h0
    have := h0 i (by simpa using hi)
    simpa using this
  | succ fuel ih =>
    intro listed a w hls hc hnone h
    by_cases hallB : ∀ i, i < init.length → listed.getD i false = true
    · exact start (fuel + 1) listed a w hls (by omega) hallB hnone h
    · have hready : ∀ i ∈ Region.ready md (init ++ tail).toArray listed, i < init.length := by
        intro i hi
        obtain ⟨hun, oi, hoi, hall⟩ := mem_ready.1 hi
        have hil := (Array.getElem?_eq_some_iff.1 hoi).1
        by_cases hlt : i < init.length
        · exact hlt
        · exfalso
          apply hallB
          intro k hk
          exact forcedB_spec hB hF' (by simpa using hil) (by omega) (by omega) oi listed hoi h.closed hall
      refine ⟨fun hr => ?_, fun i hi => ?_⟩
      · exfalso
        apply hallB
        have := all_listed hB hr (by simpa using hls) (init ++ tail).length
        exact fun i hi => this i (by simp; omega) (by simp; omega)
      · have hii := hready i hi
        obtain ⟨hun, o, ho, _⟩ := mem_ready.1 hi
        have hil := (Array.getElem?_eq_some_iff.1 ho).1
        have h1 : i < listed.size := by simp at hil hls; omega
        have hcnt : (List.range init.length).countP (fun j => !(listed.setIfInBounds i true).getD j false) + tail.length ≤ fuel := by
          have := countP_lt (fun j => !listed.getD j false) (fun j => !(listed.setIfInBounds i true).getD j false) i (List.range init.length) (fun x _ hx => by
            by_cases hxi : i = x
            · subst hxi; simp [h1] at hx
            · rwa [getD_set_ne false hxi] at hx) (by simpa using hii) (by simp [h1] at hun ⊢; exact hun) (by simp [h1])
          omega
        have hs := hstep i o hii ho a w h.ext (reads_of hnext hB h ho hi (by simpa using hls))
        have hnone' : ∀ j, init.length ≤ j → (listed.setIfInBounds i true).getD j false = false := fun j hj => by
          rw [getD_set_ne false (by omega)]; exact hnone j hj
        unfold StepTo at hs
        unfold wpOp
        simp only [ho]
        split
        · rename_i hw
          rw [if_pos hw] at hs
          exact .inl (hs _ fun v w' he hv => ih _ _ _ (by simpa using hls) hcnt hnone' (h.put hF hS hB ho hi (by simpa using hls) he hv))
        · rename_i hw
          rw [if_neg hw] at hs
          exact ih _ _ _ (by simpa using hls) hcnt hnone' (h.put hF hS hB ho hi (by simpa using hls) (Ext.refl w) hs)
end

/-- The walk of the operations that may come up in whatever order; then the tail. -/
def wpMonoT (P : Program) (ops : Array Oper) (Q : Exit → Act → World → Prop) (w0 : World) (n : Nat) (ds : List Deferred) (tail : List Oper) : List Oper → (Nat → Fact) → Prop
  | [], S => ∀ a w, Ext w0 w → a.defers = ds → a.tmps.size = n → (∀ t, t < n → S t (a.tmps.getD t undef) w) → wpList P ops Q tail a w
  | o :: rest, S => ∃ f : Fact, f.stable ∧ (∀ a w, Ext w0 w → Reads ops S o a w → StepTo P ops Q f o a w) ∧ wpMonoT P ops Q w0 n ds tail rest (upd S o.dst f)

def contS (ops : Array Oper) (S0 : Nat → Fact) (k : Nat) : Nat → Nat → Fact
  | 0 => S0
  | j + 1 => match ops[k + j]? with
    | some o => upd (contS ops S0 k j) o.dst (Is undef)
    | none => contS ops S0 k j

theorem wpMonoT_steps (tail : List Oper) : ∀ (l : List Oper) (k : Nat) (S0 : Nat → Fact), (∀ j, j < l.length → l[j]? = ops[k + j]?) → wpMonoT P ops Q w0 n ds tail l S0 →
    ∃ (S : Nat → Nat → Fact) (F : Nat → Fact), S k = S0 ∧ (∀ i, (F i).stable) ∧ (∀ i o, k ≤ i → i < k + l.length → ops[i]? = some o → ∀ a w, Ext w0 w → Reads ops (S i) o a w → StepTo P ops Q (F i) o a w) ∧
      (∀ i o, k ≤ i → ops[i]? = some o → S (i + 1) = upd (S i) o.dst (F i)) ∧
      (∀ a w, Ext w0 w → a.defers = ds → a.tmps.size = n → (∀ t, t < n → S (k + l.length) t (a.tmps.getD t undef) w) → wpList P ops Q tail a w)
  | [], k, S0, _, h => by
    refine ⟨fun i => contS ops S0 k (i - k), fun _ => Is undef, by simp [contS], fun _ => Is.stable _, ?_, ?_, ?_⟩
    · intro i o hi hi2 ho; simp at hi2; omega
    · intro i o hi ho
      have e : i + 1 - k = (i - k) + 1 := by omega
      show contS ops S0 k (i + 1 - k) = _
      rw [e, contS, show k + (i - k) = i by omega, ho]
    · have e : contS ops S0 k (k + ([] : List Oper).length - k) = S0 := by simp [contS]
      intro a w h1 h2 h3 h4
      refine h a w h1 h2 h3 fun t ht => ?_
      have := h4 t ht
      simp only [e] at this
      exact this
  | o :: rest, k, S0, hl, h => by
    obtain ⟨f, hf, hs, hr⟩ := h
    obtain ⟨S, F, h0, h1, h2, h3, h4⟩ := wpMonoT_steps tail rest (k + 1) _ (fun j hj => by have := hl (j + 1) (by simpa using hj); simpa [Nat.add_assoc, Nat.add_comm 1 j] using this) hr
    have ho : ops[k]? = some o := by simpa using (hl 0 (by simp)).symm
    refine ⟨fun i => if i ≤ k then S0 else S i, fun i => if i ≤ k then f else F i, by simp, fun i => by dsimp only; split <;> first | exact hf | exact h1 i, ?_, ?_, ?_⟩
    · intro i o' hi hi2 ho'
      by_cases hik : i = k
      · subst hik
        rw [ho] at ho'
        obtain rfl := Option.some.inj ho'
        simpa using hs
      · have : ¬ i ≤ k := by omega
        simpa [this] using h2 i o' (by omega) (by simp at hi2; omega) ho'
    · intro i o' hi ho'
      by_cases hik : i = k
      · subst hik
        rw [ho] at ho'
        obtain rfl := Option.some.inj ho'
        have : ¬ i + 1 ≤ i := by omega
        simp only [this, if_false, Nat.le_refl, if_true]
        exact h0
      · have h5 : ¬ i ≤ k := by omega
        have h6 : ¬ i + 1 ≤ k := by omega
        simpa [h5, h6] using h3 i o' (by omega) ho'
    · have h5 : ¬ k + (rest.length + 1) ≤ k := by omega
      simp only [List.length_cons, h5, if_false]
      rw [show k + (rest.length + 1) = k + 1 + rest.length by omega]
      exact h4

theorem wp_region_monoT {id : Nat} {a : Act} {w : World} (init tail : List Oper) (he : Ext w0 w) (hm : P.follows .mixedOrders = true) (hB : orderB .any (init ++ tail).toArray a.tmps.size = true) (hF : forcedB .any (init ++ tail) init.length = true)
    (h : wpMonoT P (init ++ tail).toArray Q w0 a.tmps.size a.defers tail init (fun t => Is (a.tmps.getD t undef))) : (Code.region id (init ++ tail).toArray true).wp P Q a w := by
  obtain ⟨S, F, h0, h1, h2, h3, h4⟩ := wpMonoT_steps tail init 0 _ (fun j hj => by simp [List.getElem?_append_left hj]) h
  refine wp_region_any hm (wpAny_mono_tail (md := .any) init tail hF h1 (fun t => by rw [h0]; exact Is.stable _) hB (fun i o => h3 i o (Nat.zero_le _)) (fun i o hi => h2 i o (Nat.zero_le _) (by omega)) (fun a w => by simpa using h4 a w) _ _ _ _ (by simp) ?_ ?_ ?_)
  · have := List.countP_le_length (p := fun i => !(Array.replicate (init ++ tail).toArray.size false).getD i false) (l := List.range init.length)
    simp at this ⊢
    omega
  · intro i _
    simp [Array.getElem?_replicate]
    split <;> simp
  · refine ⟨he.trans (Ext.drew w), rfl, rfl, ?_, ?_, ?_, ?_⟩
    · intro j o d hj hd hl
      simp [Array.getElem?_replicate] at hl
      split at hl <;> simp at hl
    · intro j o d hj hd hl
      rw [h0]; rfl
    · intro d _
      rw [h0]; rfl
    · intro j o e hj hl
      simp [Array.getElem?_replicate] at hl
      split at hl <;> simp at hl
end
end Dsd

namespace Dsd
open Go Go.RowKit
section
variable {P : Program} {ops : Array Oper} {Q : Exit → Act → World → Prop} {w0 : World} {ds : List Deferred} {tail : List Oper}

/-- The facts as a list, one for each slot. -/
def factAt (L : List Fact) : Nat → Fact := fun t => L.getD t (Is undef)
def setL (L : List Fact) (d : Option Tmp) (f : Fact) : List Fact := match d with
  | some d => L.set d f
  | none => L
/-- What is left when the walk is at its end: the frame, slot by slot. -/
def Rest (P : Program) (ops : Array Oper) (Q : Exit → Act → World → Prop) (tail : List Oper) (ds : List Deferred) (w : World) : List Fact → List Value → Prop
  | [], acc => wpList P ops Q tail ⟨acc.reverse.toArray, ds⟩ w
  | f :: L, acc => ∀ x, f x w → Rest P ops Q tail ds w L (x :: acc)
def wpML (P : Program) (ops : Array Oper) (Q : Exit → Act → World → Prop) (w0 : World) (tail : List Oper) (ds : List Deferred) : List Oper → List Fact → Prop
  | [], L => ∀ w, Ext w0 w → Rest P ops Q tail ds w L []
  | o :: rest, L => ∃ f : Fact, f.stable ∧ (∀ a w, Ext w0 w → Reads ops (factAt L) o a w → StepTo P ops Q f o a w) ∧ wpML P ops Q w0 tail ds rest (setL L o.dst f)

theorem rest_all (w : World) : ∀ (L : List Fact) (acc : List Value) (xs : List Value), Rest P ops Q tail ds w L acc → xs.length = L.length → (∀ (t : Nat) (h : t < xs.length), (L.getD t (Is undef)) xs[t] w) → wpList P ops Q tail ⟨(acc.reverse ++ xs).toArray, ds⟩ w
  | [], acc, xs, h, hl, _ => by
    have : xs = [] := List.eq_nil_of_length_eq_zero hl
    subst this
    simpa [Rest] using h
  | f :: L, acc, [], _, hl, _ => by simp at hl
  | f :: L, acc, x :: xs, h, hl, hx => by
    have h0 := hx 0 (by simp)
    have := rest_all w L (x :: acc) xs (h x (by simpa using h0)) (by simpa using hl) (fun t ht => hx (t + 1) (by simpa using ht))
    simpa using this

theorem factAt_set (L : List Fact) (d : Tmp) (f : Fact) (h : d < L.length) : factAt (L.set d f) = upd (factAt L) (some d) f := by
  funext t
  simp only [factAt, upd, List.getD]
  by_cases ht : t = d
  · subst ht; simp [h]
  · rw [if_neg ht, List.getElem?_set_ne (Ne.symm ht)]

theorem wpMono_of_list : ∀ (l : List Oper) (L : List Fact), (∀ o ∈ l, ∀ d, o.dst = some d → d < L.length) → wpML P ops Q w0 tail ds l L → wpMonoT P ops Q w0 L.length ds tail l (factAt L)
  | [], L, _, h => fun a w he hd hs hf => by
    have hx := rest_all w L [] a.tmps.toList (h w he) (by simpa using hs) (fun t ht => by
      have ht' : t < a.tmps.size := by simpa using ht
      have := hf t (by omega)
      simpa [factAt, ht'] using this)
    rw [← hd] at hx
    simpa using hx
  | o :: rest, L, hd, h => by
    obtain ⟨f, h1, h2, h3⟩ := h
    refine ⟨f, h1, h2, ?_⟩
    cases ho : o.dst with
    | none =>
      rw [ho] at h3
      exact wpMono_of_list rest L (fun o' ho' => hd o' (by simp [ho'])) h3
    | some d =>
      rw [ho] at h3
      have hdl := hd o (by simp) d ho
      have := wpMono_of_list rest (L.set d f) (fun o' ho' d' hd' => by rw [List.length_set]; exact hd o' (by simp [ho']) d' hd') h3
      rw [List.length_set, factAt_set L d f hdl] at this
      exact this

/-- The region, at a frame that is written out: 'init' in whatever order, 'tail' behind it. -/
theorem wp_region_mlt {id : Nat} {w : World} (init tail : List Oper) {l : List Oper} {vs : List Value} (he : Ext w0 w) (hm : P.follows .mixedOrders = true) (hl : l = init ++ tail) (hB : orderB .any l.toArray vs.length = true) (hF : forcedB .any l init.length = true)
    (h : wpML P l.toArray Q w0 tail ds init (vs.map Is)) : (Code.region id l.toArray true).wp P Q ⟨vs.toArray, ds⟩ w := by
  subst hl
  refine wp_region_monoT init tail he hm (by simpa using hB) hF ?_
  have hdst : ∀ o ∈ init, ∀ d, o.dst = some d → d < (vs.map Is).length := by
    intro o ho d hd
    obtain ⟨k, hk⟩ := List.getElem?_of_mem (show o ∈ init ++ tail by simp [ho])
    have := (orderB_spec (ops := (init ++ tail).toArray) hB (i := k) (j := k) (by simpa using hk) (by simpa using hk) hd).1
    simpa using this
  have h1 := wpMono_of_list init (vs.map Is) hdst h
  have e : factAt (vs.map Is) = fun t => Is ((vs.toArray).getD t undef) := by
    funext t
    simp only [factAt, List.getD, List.getElem?_map]
    by_cases ht : t < vs.length
    · simp [ht]
    · simp [List.getElem?_eq_none (Nat.le_of_not_lt ht)]
  rw [e] at h1
  simpa using h1
theorem take_drop_eq {α : Type} (k : Nat) (l : List α) : l = l.take k ++ l.drop k := (List.take_append_drop k l).symm
/-- .. the tail being what stands from place k on. -/
theorem wp_region_mk {id : Nat} {w : World} (k : Nat) {l : List Oper} {vs : List Value} (he : Ext w0 w) (hm : P.follows .mixedOrders = true) (hB : orderB .any l.toArray vs.length = true) (hF : forcedB .any l (l.take k).length = true)
    (h : wpML P l.toArray Q w0 (l.drop k) ds (l.take k) (vs.map Is)) : (Code.region id l.toArray true).wp P Q ⟨vs.toArray, ds⟩ w :=
  wp_region_mlt (l.take k) (l.drop k) he hm (take_drop_eq k l) hB hF h

theorem rest_is (w : World) (v : Value) (L : List Fact) (acc : List Value) (h : Rest P ops Q tail ds w L (v :: acc)) : Rest P ops Q tail ds w (Is v :: L) acc := fun x hx => by
  have : x = v := hx
  subst this; exact h
theorem rest_fact (w : World) (f : Fact) (L : List Fact) (acc : List Value) (h : ∀ x, f x w → Rest P ops Q tail ds w L (x :: acc)) : Rest P ops Q tail ds w (f :: L) acc := h
theorem rest_end (w : World) (acc : List Value) (h : wpList P ops Q tail ⟨acc.reverse.toArray, ds⟩ w) : Rest P ops Q tail ds w [] acc := h

section
variable {o : Oper} {rest : List Oper} {L : List Fact}
/-- 'move', 'assign' hand a slot's fact on. -/
theorem wpML_move (t : Tmp) (f : Fact) (hg : o.guard = none) (ho : o.op = .move (.tmp t) ∨ o.op = .assign (.tmp t)) (hf : L.getD t (Is undef) = f) (hs : f.stable) (h : wpML P ops Q w0 tail ds rest (setL L o.dst f)) : wpML P ops Q w0 tail ds (o :: rest) L := by
  subst hf
  refine ⟨_, hs, fun a w _ hr => ?_, h⟩
  have ht : factAt L t (a.tmps.getD t undef) w := hr t (by rcases ho with ho | ho <;> simp [Oper.looksAt, ho, Op.operands])
  unfold StepTo
  rw [if_pos (by simp [Region.wanted, hg])]
  intro K hK
  have h1 := hK _ w (Ext.refl w) ht
  unfold Oper.wp
  rcases ho with ho | ho
  · rw [BigFrame.run_move _ ho]; exact h1
  · rw [BigFrame.run_assign _ ho]; exact h1
theorem wpML_moveC (v : Value) (hg : o.guard = none) (ho : o.op = .move (.const v) ∨ o.op = .assign (.const v)) (h : wpML P ops Q w0 tail ds rest (setL L o.dst (Is v))) : wpML P ops Q w0 tail ds (o :: rest) L := by
  refine ⟨_, Is.stable v, fun a w _ _ => ?_, h⟩
  unfold StepTo
  rw [if_pos (by simp [Region.wanted, hg])]
  intro K hK
  have h1 := hK v w (Ext.refl w) rfl
  unfold Oper.wp
  rcases ho with ho | ho
  · rw [BigFrame.run_move _ ho]; exact h1
  · rw [BigFrame.run_assign _ ho]; exact h1
/-- An operation with one value, whatever the order. -/
theorem wpML_det {v : Value} (hg : o.guard = none) (h1 : ∀ a w, Ext w0 w → Reads ops (factAt L) o a w → ∀ K : Act → World → Prop, (∀ w', Ext w w' → K (a.put o.dst v) w') → o.wp P a w K Q)
    (h : wpML P ops Q w0 tail ds rest (setL L o.dst (Is v))) : wpML P ops Q w0 tail ds (o :: rest) L :=
  ⟨_, Is.stable v, fun a w he hr => by unfold StepTo; rw [if_pos (by simp [Region.wanted, hg])]; exact fun K hK => h1 a w he hr K fun w' he' => hK v w' he' rfl, h⟩
/-- An operation whose value hangs on the world. -/
theorem wpML_fact (f : Fact) (hf : f.stable) (hg : o.guard = none) (h1 : ∀ a w, Ext w0 w → Reads ops (factAt L) o a w → ∀ K : Act → World → Prop, (∀ v w', Ext w w' → f v w' → K (a.put o.dst v) w') → o.wp P a w K Q)
    (h : wpML P ops Q w0 tail ds rest (setL L o.dst f)) : wpML P ops Q w0 tail ds (o :: rest) L :=
  ⟨f, hf, fun a w he hr => by unfold StepTo; rw [if_pos (by simp [Region.wanted, hg])]; exact h1 a w he hr, h⟩
end
end

/-- A slice over a block of its own, that holds this. -/
def Fresh (n cap : Nat) (o : Obj) : Fact := fun x w => ∃ b, x = .slice (some ⟨b, 0, none⟩) n cap ∧ Blk w b o
theorem Fresh.stable (n cap : Nat) (o : Obj) : (Fresh n cap o).stable := fun _ _ _ he ⟨b, h1, h2⟩ => ⟨b, h1, he.blk b o h2⟩
theorem Fresh.new (n cap : Nat) (o : Obj) (w : World) : Fresh n cap o (.slice (some ⟨w.heap.size, 0, none⟩) n cap) (w.alloc o) := ⟨_, rfl, Blk.new w o⟩
end Dsd
