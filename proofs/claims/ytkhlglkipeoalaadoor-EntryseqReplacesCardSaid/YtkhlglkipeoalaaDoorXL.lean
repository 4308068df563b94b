/- A range over a function, at the wide fence: the iterator may keep state of its own in cells, told apart from the body's by the types of its blocks. Over any program. -/
import Derived.Test.YtkhlglkipeoalaaDoorB2
import Derived.RangeFuncNested
import Derived.RangeFuncBound
import Derived.RangeFuncCalls
import Derived.RangeFuncLeaves
import Derived.Test.YtkhlglkipeoalaaDoorMono
import Derived.OrdersIn
import Derived.TacticsIn
import Derived.Test.YtkhlglkipeoalaaDoorX26
import Derived.Test.YtkhlglkipeoalaaDoorX1
import Derived.Test.YtkhlglkipeoalaaDoorPC
import Derived.Test.YtkhlglkipeoalaaDoorX23
import Derived.OwnWalkIn
import Derived.TacticsInMore
import Derived.LoopNIn
import Derived.LoopIn
import Derived.Test.YtkhlglkipeoalaaDoorX29
import Derived.Shelf.Abstract
set_option linter.unusedSimpArgs false
set_option linter.unusedVariables false
namespace Dsd
open Go Go.RowKit

/-- Below n0 nothing has turned, and of the blocks of cells only those whose type is in tc. -/
structure Kc (n0 : Nat) (tc : Nat → TypeId → Prop) (W W' : World) : Prop where
  below : Below n0 W W'
  cells : ∀ (b : Nat) (cs : Array Value) (t : TypeId) (f : Nat × Nat), ¬ tc b t → W.heap[b]? = some (.cells cs t f) → W'.heap[b]? = some (.cells cs t f)
theorem Kc.refl (n0 : Nat) (tc : Nat → TypeId → Prop) (W : World) : Kc n0 tc W W := ⟨Below.refl _ _, fun _ _ _ _ _ h => h⟩
theorem Kc.trans {n0 : Nat} {tc : Nat → TypeId → Prop} {A B C : World} (h : Kc n0 tc A B) (k : Kc n0 tc B C) : Kc n0 tc A C := ⟨h.below.trans k.below, fun b cs t f ht hb => k.cells b cs t f ht (h.cells b cs t f ht hb)⟩
theorem Kc.mono {n0 : Nat} {tc td : Nat → TypeId → Prop} {A B : World} (h : Kc n0 tc A B) (ht : ∀ b t, tc b t → td b t) : Kc n0 td A B := ⟨h.below, fun b cs t f hn hb => h.cells b cs t f (fun hc => hn (ht b t hc)) hb⟩
theorem Kc.blk {n0 : Nat} {tc : Nat → TypeId → Prop} {A B : World} (h : Kc n0 tc A B) {b : Nat} {cs : Array Value} {t : TypeId} (hb : Blk A b (.cells cs t)) (ht : ¬ tc b t) : Blk B b (.cells cs t) := h.cells b cs t _ ht hb
theorem Kc.of_ext {n0 : Nat} {tc : Nat → TypeId → Prop} {A B : World} (h : Ext A B) (hn : n0 ≤ A.heap.size) : Kc n0 tc A B :=
  ⟨Below.mono h hn, fun b cs t f _ hb => (h.block b (Array.getElem?_eq_some_iff.1 hb).1).trans hb⟩
theorem Kc.of_chg {n0 g : Nat} {tc : Nat → TypeId → Prop} {A B : World} {cs : Array Value} {t : TypeId} (c : Chg g A B) (hg : n0 ≤ g) (hb : Blk A g (.cells cs t)) (ht : tc g t) : Kc n0 tc A B :=
  ⟨⟨c.os, c.tape, c.output, by rw [c.size]; exact Nat.le_refl _, fun k hk => c.block k (by omega)⟩, fun b cs' t' f hn hb' => by
    by_cases e : b = g
    · subst e
      have hb0 : A.heap[b]? = some (.cells cs t) := hb
      rw [hb0] at hb'
      cases hb'
      exact absurd ht hn
    · exact (c.block b e).trans hb'⟩
theorem Kc.of_grown {n0 : Nat} {tc : Nat → TypeId → Prop} {A B : World} {base : Nat} {e : TypeId} {size : Nat} {v : Value} {n : Nat} {xs : List Value} (hg : A.grownBy B v.ownBlock) (ho : A.ownsRow base e size v n xs) (hn : n0 ≤ base) (hb : base ≤ A.heap.size) (ht : ∀ b, tc b e) : Kc n0 tc A B := by
  refine ⟨Below.of_grown hg ho hn hb, fun b cs t f hnt hb' => (hg.block b (Array.getElem?_eq_some_iff.1 hb').1 (fun e => ?_)).trans hb'⟩
  obtain ⟨_, ⟨rfl, _⟩ | ⟨g, cap, cur, rfl, _, hgg, _⟩⟩ := ho
  · simp [Value.ownBlock] at e
  · simp [Value.ownBlock] at e
    subst e
    rw [hgg] at hb'
    cases hb'
    exact hnt (ht _)
theorem Kc.of_put {n0 l : Nat} {tc : Nat → TypeId → Prop} {W : World} {o : Obj} (o' : Obj) (h : W.heap[l]? = some o) (ho : o.isCells = false) (hn : n0 ≤ l) : Kc n0 tc W (W.putObj l o') := by
  have hl := (Array.getElem?_eq_some_iff.1 h).1
  refine ⟨(Below.refl n0 W).grown (grownBy_putObj' W l o') (by omega) (fun k e => by cases e; exact hn), fun b cs t f _ hb => ?_⟩
  refine (World.putObj_heap_other (fun e => ?_)).trans hb
  subst e
  rw [h] at hb
  cases hb
  simp [Obj.isCells] at ho
theorem Below.of_chg {n0 g : Nat} {A B : World} (c : Chg g A B) (hg : n0 ≤ g) : Below n0 A B := ⟨c.os, c.tape, c.output, by rw [c.size]; exact Nat.le_refl _, fun k hk => c.block k (by omega)⟩
theorem KeepsFrom.of_ext {B : Nat} {W W' : World} (h : Ext W W') : KeepsFrom B W W' := ⟨h.size, fun k _ _ hk _ => (h.block k (Array.getElem?_eq_some_iff.1 hk).1).trans hk⟩
theorem KeepsFrom.of_chg {B g : Nat} {W W' : World} {cs : Array Value} {t : TypeId} (c : Chg g W W') (hb : Blk W g (.cells cs t)) : KeepsFrom B W W' :=
  ⟨by rw [c.size]; exact Nat.le_refl _, fun k o _ hk ho => by
    by_cases e : k = g
    · subst e
      have hb0 : W.heap[k]? = some (.cells cs t) := hb
      rw [hb0] at hk
      cases hk
      simp [Obj.isCells] at ho
    · exact (c.block k e).trans hk⟩
theorem KeepsFrom.of_grown {B : Nat} {W W' : World} {base : Nat} {e : TypeId} {size : Nat} {v : Value} {n : Nat} {xs : List Value} (hg : W.grownBy W' v.ownBlock) (ho : W.ownsRow base e size v n xs) : KeepsFrom B W W' :=
  ⟨hg.size, fun k o _ hk hc => (hg.block k (Array.getElem?_eq_some_iff.1 hk).1 (fun e => by
    obtain ⟨_, ⟨rfl, _⟩ | ⟨g, cap, cur, rfl, _, hgg, _⟩⟩ := ho
    · simp [Value.ownBlock] at e
    · simp [Value.ownBlock] at e
      subst e
      rw [hgg] at hk
      cases hk
      simp [Obj.isCells] at hc)).trans hk⟩

/-- How the body of a round may be left: W the world in which the round began, W2 the one in which the body began. -/
def kcPost {α : Type} (B n0 : Nat) (tB : Nat → TypeId → Prop) (I : List α → World → Prop) (Ix : Code → List α → World → Prop) (xs : List α) (W W2 : World) : Exit → Act → World → Prop
  | .normal, _, W' => KeepsFrom B W2 W' ∧ Kc n0 tB W W' ∧ I xs W'
  | .ret, _, W' => KeepsFrom B W2 W' ∧ Ix .ret xs W'
  | .exit id, _, W' => KeepsFrom B W2 W' ∧ Ix (.exit id) xs W'
  | .goto t, _, W' => KeepsFrom B W2 W' ∧ Ix (.goto t) xs W'
  | .panic _, _, _ => False
  | .outgrown, _, _ => False
theorem kcPost_in {α : Type} {B n0 : Nat} {tB : Nat → TypeId → Prop} {I : List α → World → Prop} {Ix : Code → List α → World → Prop} {xs : List α} {W W2 : World} : ¬ LetsOut (kcPost B n0 tB I Ix xs W W2) := fun ⟨_, _, h⟩ => h

/-- What an iterator is told of the rounds, and what it tells: J between two rounds, Jx where a round has said 'no more'. -/
def IterAt {α : Type} (P : Program) (gf : Nat) (lb : Array Value) (encs : α → Array Value) (n0 : Nat) (tI tB : Nat → TypeId → Prop) (S Sp : List α → World → Prop) (Nx : List α → α → Prop) (w : World) : Prop :=
  ∀ (l : Nat) (J Jx : List α → World → Prop) (W : World), Ext w W →
    (∀ pre A B, Kc n0 tI A B → KeepsFrom w.heap.size A B → J pre A → J pre B) → (∀ pre A B, Kc n0 tI A B → KeepsFrom w.heap.size A B → Jx pre A → Jx pre B) →
    (∀ pre x W1, J pre W1 → Nx pre x → YieldAt Fence.wide 2 P l (encs x) W1 fun e W' =>
      (e = .returned (.bool true) ∧ J (pre ++ [x]) W' ∧ Kc n0 tB W1 W') ∨ (e = .returned (.bool false) ∧ Jx (pre ++ [x]) W')) →
    J [] W →
    Calls P gf (#[.func (.yield l) #[] #[]] ++ lb) W fun e W' => (∃ v, e = .returned v) ∧ ((∃ xs, S xs W' ∧ J xs W') ∨ (∃ pre, Sp pre W' ∧ Jx pre W'))

variable {P : Program}
theorem wp_rangeFunc_kc {α : Type} {g : Operand} {ps : Array Tmp} {assign body : Code} {Q : Exit → Act → World → Prop} {a : Act} {w : World} {n0 : Nat} (hn0 : n0 ≤ w.heap.size) {tI tB : Nat → TypeId → Prop}
    {gf : Nat} {lb : Array Value} (hg : a.eval g = .func (.func gf) #[] lb) (eg : ∀ args w, (callFunc gf args).run P w = .ok (.enter gf args) w)
    {encs : α → Array Value} (hps : ∀ x, (encs x).size = ps.size) {S Sp : List α → World → Prop}
    (hS : ∀ xs A B, Kc n0 (fun _ _ => False) A B → S xs A → S xs B) (hSp : ∀ xs A B, Kc n0 (fun _ _ => False) A B → Sp xs A → Sp xs B)
    {Nx : List α → α → Prop} (hseq : IterAt P gf lb encs n0 tI tB S Sp Nx w)
    (I : List α → World → Prop) (Ix : Code → List α → World → Prop) (hI : ∀ pre A B, Kc n0 tI A B → I pre A → I pre B) (hIx : ∀ c pre A B, Kc n0 tI A B → Ix c pre A → Ix c pre B) (h0 : I [] w)
    (hround : ∀ (l : Nat) (pre : List α) (x : α) (W : World), w.heap.size ≤ W.heap.size → I pre W → Nx pre x →
      assign.wpIn (Fence.wide.inRound l) 2 P (Exit.then (fun a1 W1 => KeepsFrom w.heap.size W W1 ∧
        ∀ W2, Kc n0 (fun _ _ => False) W1 W2 → W1.heap.size = W2.heap.size → body.wpIn (Fence.wide.inRound l) 2 P (kcPost w.heap.size n0 tB I Ix (pre ++ [x]) W W2) a1 W2) (fun _ _ _ => False))
        { tmps := (ps.zip (encs x)).foldl (fun t (p, v) => t.setIfInBounds p v) a.tmps, defers := [] } W)
    (hdone : ∀ (D : Nat) (xs : List α) (W : World), w.heap.size ≤ D → S xs W → I xs W → W.heap[D]? = some (.deferred (some [])) → Q .normal { a with defers := { target := .collected D, args := #[] } :: a.defers } W)
    (hstop : ∀ (D : Nat) (c : Code) (pre : List α) (W : World), w.heap.size ≤ D → Sp pre W → Ix c pre W → W.heap[D]? = some (.deferred (some [])) → c.wp P Q { a with defers := { target := .collected D, args := #[] } :: a.defers } W) :
    (Code.rangeFunc g ps assign body).wp P Q a w := by
  refine (wpIn_wide (n := 3)).1 (wpIn_rangeFunc ?_)
  intro fn _
  show ∃ _, _
  obtain ⟨rec, hrec⟩ : ∃ rec : LoopState → Option Code → Loop, rec = fun st pe => { state := st, pending := pe, fn, tmps := a.tmps, params := ps, assign, body, defers := w.heap.size } := ⟨_, rfl⟩
  obtain ⟨W1, hW1⟩ : ∃ W1, (w.alloc (.deferred (some []))).alloc (.loop (rec .ready none)) = W1 := ⟨_, rfl⟩
  have hx1 : Ext w W1 := by rw [← hW1]; exact (Ext.alloc _ _).trans (Ext.alloc _ _)
  have hL1 : W1.heap[w.heap.size + 1]? = some (.loop (rec .ready none)) := by
    rw [← hW1]; have := World.alloc_heap_new (w.alloc (.deferred (some []))) (.loop (rec .ready none)); rwa [World.size_alloc] at this
  have hK1 : W1.heap[w.heap.size]? = some (.deferred (some [])) := by
    rw [← hW1]; exact ((Ext.alloc (w.alloc _) _).block _ (by simp)).trans (World.alloc_heap_new w _)
  have hI1 : I [] W1 := hI _ _ _ (Kc.of_ext hx1 hn0) h0
  refine ⟨w.heap.size + 1, [{ target := .collected w.heap.size, args := #[] }], W1, { target := .fn (.func gf) lb, args := #[.func (.yield (w.heap.size + 1)) #[] #[]] }, W1, gf,
    #[.func (.yield (w.heap.size + 1)) #[] #[]] ++ lb, W1, ?_, ?_, fun _ _ => trivial, ?_, fun _ => by omega, ?_⟩
  · rw [← hW1, hrec]; exact run_enterLoop_outer _ _ _ _ _
  · simp only [resolve, hg]
    simp [go_sem]
  · simp [invoke, go_sem, eg]
  · refine callsIn_wide.2 ((hseq (w.heap.size + 1)
      (fun pre W => (w.heap.size ≤ W.heap.size ∧ I pre W) ∧ W.heap[w.heap.size + 1]? = some (.loop (rec .ready none)) ∧ W.heap[w.heap.size]? = some (.deferred (some [])))
      (fun pre W => ∃ c, Ix c pre W ∧ W.heap[w.heap.size + 1]? = some (.loop (rec .done (some c))) ∧ W.heap[w.heap.size]? = some (.deferred (some [])))
      W1 hx1
      (fun pre A B hk hf ⟨⟨hz, hi⟩, hl, hd⟩ => ⟨⟨Nat.le_trans hz hf.size, hI pre A B hk hi⟩, hf.same _ _ (by omega) hl rfl, hf.same _ _ (Nat.le_refl _) hd rfl⟩)
      (fun pre A B hk hf ⟨c, hi, hl, hd⟩ => ⟨c, hIx c pre A B hk hi, hf.same _ _ (by omega) hl rfl, hf.same _ _ (Nat.le_refl _) hd rfl⟩)
      ?_ ⟨⟨hx1.size, hI1⟩, hL1, hK1⟩).mono ?_)
    · rintro pre x W ⟨⟨hz, hi⟩, hl, hk⟩ hnx
      have hlt : w.heap.size + 1 < W.heap.size := (Array.getElem?_eq_some_iff.1 hl).1
      have hy := run_yield (P := P) (args := encs x) hl (by rw [hrec]; exact hps x)
      rw [hrec] at hy
      refine ⟨fn, _, assign, body, hy, roundIn_of_wpIn trivial ?_⟩
      refine wpIn_mono (hround (w.heap.size + 1) pre x W hz hi hnx) ?_
      rintro e a1 Wa hp
      cases e with
      | normal =>
        obtain ⟨hkf, hbody⟩ := hp
        have hla := hkf.same _ _ (by omega) hl rfl
        have hka := hkf.same _ _ (Nat.le_refl _) hk rfl
        have hlta : w.heap.size + 1 < Wa.heap.size := (Array.getElem?_eq_some_iff.1 hla).1
        refine ⟨_, run_beginRound hla (by rw [hrec]), ?_⟩
        have hl2 : (Wa.putObj (w.heap.size + 1) (.loop { rec .ready none with state := .busy })).heap[w.heap.size + 1]? = some (.loop { rec .ready none with state := .busy }) := World.putObj_heap_same hlta
        have hk2 : (Wa.putObj (w.heap.size + 1) (.loop { rec .ready none with state := .busy })).heap[w.heap.size]? = some (.deferred (some [])) := (World.putObj_heap_other (by omega)).trans hka
        refine wpIn_mono (hbody _ (Kc.of_put _ hla rfl (by omega)) (by simp)) ?_
        generalize Wa.putObj (w.heap.size + 1) (.loop { rec .ready none with state := .busy }) = W2 at *
        have fin : ∀ (jump : Option Code) (W3 : World), KeepsFrom w.heap.size W2 W3 →
            (Instr.endRound (w.heap.size + 1) jump).run P W3 = .ok (.bool jump.isNone) (W3.putObj (w.heap.size + 1) (.loop (rec (if jump.isNone then .ready else .done) jump))) ∧
            W3.heap[w.heap.size + 1]? = some (.loop { rec .ready none with state := .busy }) ∧ w.heap.size ≤ W3.heap.size ∧
            (W3.putObj (w.heap.size + 1) (.loop (rec (if jump.isNone then .ready else .done) jump))).heap[w.heap.size + 1]? = some (.loop (rec (if jump.isNone then .ready else .done) jump)) ∧
            (W3.putObj (w.heap.size + 1) (.loop (rec (if jump.isNone then .ready else .done) jump))).heap[w.heap.size]? = some (.deferred (some [])) := fun jump W3 hk3 => by
          have hl3 := hk3.same _ _ (by omega) hl2 rfl
          have hz3 := (Array.getElem?_eq_some_iff.1 hl3).1
          have := run_endRound (P := P) jump hl3
          rw [hrec] at this ⊢
          exact ⟨this, by rw [hrec] at hl3; exact hl3, by omega, World.putObj_heap_same hz3, (World.putObj_heap_other (by omega)).trans (hk3.same _ _ (Nat.le_refl _) hk2 rfl)⟩
        rintro e a3 W3 hp
        cases e with
        | normal =>
          obtain ⟨hk3, hkc, hi3⟩ := hp
          obtain ⟨hr, hl3, hz3, hl4, hk4⟩ := fin none W3 hk3
          exact ⟨_, _, hr, .inl ⟨rfl, ⟨⟨by simpa using hz3, hI _ _ _ (Kc.of_put _ hl3 rfl (by omega)) hi3⟩, hl4, hk4⟩, hkc.trans (Kc.of_put _ hl3 rfl (by omega))⟩⟩
        | ret =>
          obtain ⟨hk3, hi3⟩ := hp
          obtain ⟨hr, hl3, hz3, hl4, hk4⟩ := fin (some .ret) W3 hk3
          exact ⟨_, _, hr, .inr ⟨rfl, .ret, hIx _ _ _ _ (Kc.of_put _ hl3 rfl (by omega)) hi3, hl4, hk4⟩⟩
        | exit id =>
          obtain ⟨hk3, hi3⟩ := hp
          obtain ⟨hr, hl3, hz3, hl4, hk4⟩ := fin (some (.exit id)) W3 hk3
          exact ⟨_, _, hr, .inr ⟨rfl, .exit id, hIx _ _ _ _ (Kc.of_put _ hl3 rfl (by omega)) hi3, hl4, hk4⟩⟩
        | goto t =>
          obtain ⟨hk3, hi3⟩ := hp
          obtain ⟨hr, hl3, hz3, hl4, hk4⟩ := fin (some (.goto t)) W3 hk3
          exact ⟨_, _, hr, .inr ⟨rfl, .goto t, hIx _ _ _ _ (Kc.of_put _ hl3 rfl (by omega)) hi3, hl4, hk4⟩⟩
        | panic ch => exact hp.elim
        | outgrown => exact hp.elim
      | exit id => exact hp.elim
      | goto t => exact hp.elim
      | ret => exact hp.elim
      | panic ch => exact hp.elim
      | outgrown => exact hp.elim
    · rintro e W2 ⟨⟨v, rfl⟩, (⟨xs, hSx, ⟨_, hi⟩, hl, hk⟩ | ⟨pre, hSx, c, hi, hl, hk⟩)⟩
      · refine ⟨none, _, by have := run_endLoop (P := P) hl (by rw [hrec]; simp); rw [hrec] at this; exact this, ?_⟩
        exact hdone _ xs _ (Nat.le_refl _) (hS _ _ _ (Kc.of_put _ hl rfl (by omega)) hSx) (hI _ _ _ (Kc.of_put _ hl rfl (by omega)) hi) ((World.putObj_heap_other (by omega)).trans hk)
      · refine ⟨some c, _, by have := run_endLoop (P := P) hl (by rw [hrec]; simp); rw [hrec] at this; exact this, ?_⟩
        exact (wpIn_wide (n := 3)).2 (hstop _ c pre _ (Nat.le_refl _) (hSp _ _ _ (Kc.of_put _ hl rfl (by omega)) hSx) (hIx _ _ _ _ (Kc.of_put _ hl rfl (by omega)) hi) ((World.putObj_heap_other (by omega)).trans hk))
theorem blk_ne {w : World} {a b : Nat} {cs ds : Array Value} {t u : TypeId} (h : Blk w a (.cells cs t)) (k : Blk w b (.cells ds u)) (hn : t ≠ u) : a ≠ b := fun e => by
  subst e
  have h' : w.heap[a]? = some (.cells cs t) := h
  have k' : w.heap[a]? = some (.cells ds u) := k
  rw [h'] at k'
  cases k'
  exact hn rfl
end Dsd
/- In a round's frame, and at the wide fence, an operation that is no defer statement is carried out as everywhere: what is proved of it plainly holds there too. Over any program. -/
namespace Dsd
open Go Go.RowKit
/-- A fence that lets all in: the wide one, or the wide one in a round. -/
def Wide (F : Fence) : Prop := F = Fence.wide ∨ ∃ l, F = Fence.wide.inRound l
theorem Wide.calls {F : Fence} (h : Wide F) {n : Nat} {P : Program} {f : FuncId} {args : Array Value} {w : World} {R : Ending → World → Prop} (hc : Calls P f args w R) : CallsIn F n P f args w R := by
  rcases h with rfl | ⟨l, rfl⟩
  · exact callsIn_wide.2 hc
  · exact CallsIn.inRound l (callsIn_wide.2 hc)
theorem Wide.rows {F : Fence} (h : Wide F) {n : Nat} {P : Program} {row : String} {args : Array Value} {w : World} {R : Value → World → Prop} (hc : Rows P row args w R) : RowsIn F n P row args w R := by
  rcases h with rfl | ⟨l, rfl⟩
  · exact fun c cs _ => let ⟨v, w', r, s⟩ := hc c cs; ⟨v, w', r, stepsIn_wide.2 s⟩
  · exact fun c cs _ => let ⟨v, w', r, s⟩ := hc c cs; ⟨v, w', r, stepsIn_wide.2 s⟩
theorem Wide.fn {F : Fence} (h : Wide F) (f : FuncId) : F.fn f := by
  rcases h with rfl | ⟨l, rfl⟩ <;> trivial
theorem Wide.depth {F : Fence} (h : Wide F) : F.depth = none := by
  rcases h with rfl | ⟨l, rfl⟩ <;> rfl
theorem op_in {F : Fence} (hF : Wide F) {n : Nat} {P : Program} {o : Oper} {a : Act} {w : World} {K : Act → World → Prop} {Q : Exit → Act → World → Prop} (hnd : ∀ c, o.op ≠ .defer c) (h : o.wp P a w K Q) : o.wpIn F n P a w K Q := by
  refine ⟨fun f _ => hF.fn f, ?_⟩
  rw [Oper.semAt_eq _ _ _ hnd]
  unfold Oper.wp at h
  have hd := hF.depth
  generalize (execOp a.eval o).run P w = r at h ⊢
  cases r with
  | ok x w' =>
    cases x with
    | enter f args => exact ⟨fun hs => (by rw [hd] at hs; cases hs), hF.calls h⟩
    | row f args => exact ⟨fun hs => (by rw [hd] at hs; cases hs), hF.rows h⟩
    | value v => exact h
    | skip => exact h
    | defer d => exact h
    | _ => exact False.elim h
  | halt x w' =>
    cases x with
    | panic v => exact h
    | _ => exact False.elim h
def noDefer (o : Oper) : Bool := match o.op with
  | .defer _ => false
  | _ => true
theorem noDefer_spec {o : Oper} (h : noDefer o = true) : ∀ c, o.op ≠ .defer c := fun c e => by unfold noDefer at h; rw [e] at h; cases h
theorem wpOpIn_of {F : Fence} (hF : Wide F) {n : Nat} {P : Program} {ops : Array Oper} {Q : Exit → Act → World → Prop} (hQ : ¬ LetsOut Q) (hnd : ∀ (i : Nat) (o : Oper), ops[i]? = some o → noDefer o = true) {i : Nat} {K K' : Act → World → Prop} {a : Act} {w : World} (hK : ∀ a w, K a w → K' a w)
    (h : wpOp P ops Q i K a w) : wpOpIn F n P ops Q i K' a w := by
  unfold wpOp at h
  unfold wpOpIn
  cases ho : ops[i]? with
  | none => simp only [ho] at h ⊢; exact hK _ _ h
  | some o =>
    simp only [ho] at h ⊢
    split
    · rename_i hw
      rw [if_pos hw] at h
      rcases h with h | h
      · exact op_in hF (noDefer_spec (hnd i o ho)) (Oper.wp_mono hK h)
      · exact absurd h.2 hQ
    · rename_i hw
      rw [if_neg hw] at h
      exact ⟨fun f _ => hF.fn f, hK _ _ h⟩
theorem wpAnyIn_of {F : Fence} (hF : Wide F) {n : Nat} {P : Program} {md : Region.Mode} {ops : Array Oper} {Q : Exit → Act → World → Prop} (hQ : ¬ LetsOut Q) (hnd : ∀ (i : Nat) (o : Oper), ops[i]? = some o → noDefer o = true) :
    ∀ (fuel : Nat) (listed : Array Bool) (a : Act) (w : World), wpAny P md ops Q fuel listed a w → wpAnyIn F n P md ops Q fuel listed a w
  | 0, _, _, _, h => h
  | fuel + 1, listed, a, w, h => ⟨h.1, fun i hi => wpOpIn_of hF hQ hnd (fun a w => wpAnyIn_of hF hQ hnd fuel _ a w) (h.2 i hi)⟩
theorem wpListIn_of {F : Fence} (hF : Wide F) {n : Nat} {P : Program} {ops : Array Oper} {Q : Exit → Act → World → Prop} (hQ : ¬ LetsOut Q) : ∀ (l : List Oper) (a : Act) (w : World), l.all noDefer = true → wpList P ops Q l a w → wpListIn F n P ops Q l a w
  | [], _, _, _, h => h
  | o :: l, a, w, hnd, h => by
    rw [List.all_cons, Bool.and_eq_true] at hnd
    unfold wpList at h
    unfold wpListIn
    split
    · rename_i hw
      rw [if_pos hw] at h
      rcases h with h | h
      · exact op_in hF (noDefer_spec hnd.1) (Oper.wp_mono (fun a w h => wpListIn_of hF hQ l a w hnd.2 h) h)
      · exact absurd h.2 hQ
    · rename_i hw
      rw [if_neg hw] at h
      exact ⟨fun f _ => hF.fn f, wpListIn_of hF hQ l _ _ hnd.2 h⟩
/-- A region in a round's frame, out of its plain walk. -/
theorem region_in {F : Fence} (hF : Wide F) {n : Nat} {P : Program} {id : Nat} {l : List Oper} {Q : Exit → Act → World → Prop} {a : Act} {w : World} (hQ : ¬ LetsOut Q) (hnd : l.all noDefer = true) (h : wpList P l.toArray Q l a w) : (Code.region id l.toArray false).wpIn F n P Q a w :=
  wpIn_region_lit (wpListIn_of hF hQ l a w hnd h)
theorem region_draw_in {F : Fence} (hF : Wide F) {n : Nat} {P : Program} {id : Nat} {l : List Oper} {Q : Exit → Act → World → Prop} {a : Act} {w : World} (hm : P.follows .mixedOrders = true) (hQ : ¬ LetsOut Q) (hnd : l.all noDefer = true)
    (h : wpAny P .any l.toArray Q l.toArray.size (Array.replicate l.toArray.size false) a w.drew) : (Code.region id l.toArray true).wpIn F n P Q a w :=
  wpIn_region_any hm (wpAnyIn_of hF hQ (fun i o ho => by
    rw [List.all_eq_true] at hnd
    exact hnd o (List.mem_of_getElem? (by simpa using ho))) _ _ _ _ h)
/-- One operation more at the wide fence. -/
theorem wpListIn_cons {F : Fence} (hF : Wide F) {n : Nat} {P : Program} {ops : Array Oper} {Q : Exit → Act → World → Prop} {o : Oper} {rest : List Oper} {a : Act} {w : World} (hg : o.guard = none) (hnd : noDefer o = true)
    (h : ∀ K : Act → World → Prop, (∀ a w, wpListIn F n P ops Q rest a w → K a w) → o.wp P a w K Q) : wpListIn F n P ops Q (o :: rest) a w := by
  unfold wpListIn
  rw [if_pos (by simp [Region.wanted, hg])]
  exact op_in hF (noDefer_spec hnd) (h _ fun _ _ h => h)
/-- A call of yield. -/
theorem wpListIn_yield {n : Nat} {P : Program} {ops : Array Oper} {Q : Exit → Act → World → Prop} {dst : Option Tmp} {ty : TypeId} {pos : String} {after : Array Edge} {f : Operand} {xs : Array Operand} {ts : Array TypeId} {rest : List Oper} {a : Act} {w : World} {l : Nat} {args : Array Value} {R : Ending → World → Prop}
    (hf : a.eval f = .func (.yield l) #[] #[]) (hargs : xs.map a.eval = args) (hy : YieldAt Fence.wide n P l args w R)
    (hrun : ∀ W, (execOp a.eval ⟨dst, .call { callee := .value f, args := xs, argTypes := ts }, ty, pos, after, none⟩).run P W = (Instr.yield l args).run P W)
    (h : ∀ e w', R e w' → ∃ v, e = .returned v ∧ wpListIn Fence.wide (n + 1) P ops Q rest (a.put dst v) w') :
    wpListIn Fence.wide (n + 1) P ops Q (⟨dst, .call { callee := .value f, args := xs, argTypes := ts }, ty, pos, after, none⟩ :: rest) a w := by
  obtain ⟨fn, tmps, assign, body, hy1, hR⟩ := hy
  unfold wpListIn
  rw [if_pos (by simp [Region.wanted])]
  refine ⟨fun f _ => trivial, ?_⟩
  rw [Oper.semAt_eq _ _ _ (by intro c hc; cases hc), hrun, hy1]
  refine ⟨fun hs => (by cases hs), hR.mono fun e w' hr => ?_⟩
  obtain ⟨v, rfl, hv⟩ := h e w' hr
  exact hv

/-- A function that holds a range over a function: its contract from its body. -/
theorem calls_of_wp_marks {P : Program} {f : FuncId} {fn : Func} {c : Code} {args : Array Value} {w : World} {R : Ending → World → Prop} (hf : P.funcs[f]? = some fn) (hb : fn.body = some c)
    (h : c.wp P (bodyPostM Fence.wide 3 P fn R) { tmps := args ++ Array.replicate (fn.ntmps - args.size) undef, defers := [] } w) : Calls P f args w R :=
  callsIn_wide.1 (callsIn_of_wp_marks hf hb trivial ((wpIn_wide (n := 3)).2 h))
theorem postM_ret {P : Program} {fn : Func} {R : Ending → World → Prop} {tmps : Array Value} {v : Value} {w : World} (hr : (results fn tmps).run P w = .ok v w) (h : R (.returned v) w) : bodyPostM Fence.wide 3 P fn R .ret ⟨tmps, []⟩ w := ⟨v, hr, h⟩
/-- .. behind the loop: the mark is taken up. -/
theorem postM_mark {P : Program} {fn : Func} {R : Ending → World → Prop} {tmps : Array Value} {v : Value} {w : World} {D : Nat} (hD : w.heap[D]? = some (.deferred (some []))) (hr : (results fn tmps).run P (w.putObj D (.deferred none)) = .ok v (w.putObj D (.deferred none))) (h : R (.returned v) (w.putObj D (.deferred none))) :
    bodyPostM Fence.wide 3 P fn R .ret ⟨tmps, [{ target := .collected D, args := #[] }]⟩ w :=
  ⟨by simp, .inl ⟨_, _, rfl, run_takeDeferred hD, ⟨v, hr, h⟩⟩⟩
end Dsd
/- The walk of a drawn region whose facts stand as the world grows (Mono), in a round's frame. Over any program. -/
namespace Dsd
open Go Go.RowKit
section
variable {P : Program} {Q : Exit → Act → World → Prop} {w0 : World} {ds : List Deferred}
theorem any_monoT {a : Act} {w : World} (init tail : List Oper) (he : Ext w0 w) (hB : orderB .any (init ++ tail).toArray a.tmps.size = true) (hF : forcedB .any (init ++ tail) init.length = true)
    (h : wpMonoT P (init ++ tail).toArray Q w0 a.tmps.size a.defers tail init (fun t => Is (a.tmps.getD t undef))) :
    wpAny P .any (init ++ tail).toArray Q (init ++ tail).toArray.size (Array.replicate (init ++ tail).toArray.size false) a w.drew := by
  obtain ⟨S, F, h0, h1, h2, h3, h4⟩ := wpMonoT_steps tail init 0 _ (fun j hj => by simp [List.getElem?_append_left hj]) h
  refine wpAny_mono_tail (md := .any) init tail hF h1 (fun t => by rw [h0]; exact Is.stable _) hB (fun i o => h3 i o (Nat.zero_le _)) (fun i o hi => h2 i o (Nat.zero_le _) (by omega)) (fun a w => by simpa using h4 a w) _ _ _ _ (by simp) ?_ ?_ ?_
  · have := List.countP_le_length (p := fun i => !(Array.replicate (init ++ tail).toArray.size false).getD i false) (l := List.range init.length)
    simp at this ⊢
    omega
  · intro i _
    simp [Array.getElem?_replicate]
    split <;> simp
  · refine ⟨he.trans (Ext.drew w), rfl, rfl, ?_, ?_, ?_, ?_⟩
    · intro j o d hj hd hl
      simp [Array.getElem?_replicate] at hl
      split at hl <;> simp at hl
    · intro j o d hj hd hl
      rw [h0]; rfl
    · intro d _
      rw [h0]; rfl
    · intro j o e hj hl
      simp [Array.getElem?_replicate] at hl
      split at hl <;> simp at hl
theorem region_mk_in {F : Fence} {n : Nat} {id : Nat} {w : World} (hW : Wide F) (hQ : ¬ LetsOut Q) (k : Nat) {l : List Oper} {vs : List Value} (hnd : l.all noDefer = true) (he : Ext w0 w) (hm : P.follows .mixedOrders = true) (hB : orderB .any l.toArray vs.length = true) (hF : forcedB .any l (l.take k).length = true)
    (h : wpML P l.toArray Q w0 (l.drop k) ds (l.take k) (vs.map Is)) : (Code.region id l.toArray true).wpIn F n P Q ⟨vs.toArray, ds⟩ w := by
  refine region_draw_in hW hm hQ hnd ?_
  have hl := take_drop_eq k l
  generalize l.take k = init at *
  generalize l.drop k = tail at *
  subst hl
  refine any_monoT init tail he (by simpa using hB) hF ?_
  have hdst : ∀ o ∈ init, ∀ d, o.dst = some d → d < (vs.map Is).length := by
    intro o ho d hd
    obtain ⟨k, hk⟩ := List.getElem?_of_mem (show o ∈ init ++ tail by simp [ho])
    have := (orderB_spec (ops := (init ++ tail).toArray) hB (i := k) (j := k) (by simpa using hk) (by simpa using hk) hd).1
    simpa using this
  have h1 := wpMono_of_list init (vs.map Is) hdst h
  have e : factAt (vs.map Is) = fun t => Is ((vs.toArray).getD t undef) := by
    funext t
    simp only [factAt, List.getD, List.getElem?_map]
    by_cases ht : t < vs.length
    · simp [ht]
    · simp [List.getElem?_eq_none (Nat.le_of_not_lt ht)]
  rw [e] at h1
  simpa using h1
end
end Dsd
/- The walk of the program's Slot: a number as a key. -/
namespace Go.Proofs.YtkhlglkipeoalaaDoor
open Go.RowKit Dsd

/-- The array behind k rounds. -/
def arrB (k N : Nat) : List UInt8 := List.replicate (8 - k) 0 ++ beL k N
theorem arrB_len (k N : Nat) (hk : k ≤ 8) : (arrB k N).length = 8 := by simp [arrB, beL_len]; omega
theorem arrB_next (k N : Nat) (hk : k < 8) : (arrB k N).set (7 - k) (UInt8.ofNat (N / 256 ^ k)) = arrB (k + 1) N := by
  unfold arrB
  have e : 8 - k = (7 - k) + 1 := by omega
  have e2 : 8 - (k + 1) = 7 - k := by omega
  rw [e, e2, List.replicate_succ', List.append_assoc, List.set_append_right _ _ (by simp)]
  simp [beL]

set_option maxRecDepth 100000 in
set_option maxHeartbeats 1000000 in
theorem Slot_any (n : Int) (w : World) : Calls Tryd.prog 50 #[.int .i64 n] w fun e w' => e = .returned (.string ⟨(slotL n).toArray⟩) ∧ Ext w w' := by
  by_cases hin : 0 ≤ n ∧ n ≤ 1099511627776
  · have hwi : (decide (0 ≤ n) && decide (n ≤ 1099511627776)) = true := by simp; omega
    have HWI := Lib.hid hwi
    have HR : Hid (slotL n = beL 8 n.toNat) := Lib.hid (by unfold slotL; rw [if_neg (by omega)])
    obtain ⟨N, rfl⟩ := Int.eq_ofNat_of_zero_le hin.1
    rw [Int.toNat_natCast] at HR
    have hN : N ≤ 1099511627776 := by omega
    clear hwi hin
    go_enter Tryd.func50, Tryd.ntmps50
    go_upto_region 4 with (first | (go_at_call 75; refine (within_any _ _ _ _).mono ?_; rw [HWI.out]; rintro e w' ⟨rfl, rfl⟩))
    refine wp_name (fun w1 => Ext w w1 ∧ Blk w1 w.heap.size (.cells (byteCells (arrB 0 N)) 124)) ⟨Ext.alloc _ _, Blk.new w _⟩ ?_
    rintro w1 ⟨he1, hb1⟩
    have He1 := Lib.hid he1
    have Hb1 := Lib.hid hb1
    clear he1 hb1
    go_wp2_with fail
    go_loopw [8] (fun i wr => ∃ k : Nat, k ≤ 8 ∧ i = .int .i64 k ∧ Ext w wr ∧ Blk wr w.heap.size (.cells (byteCells (arrB k N)) 124)) (fun i _ => 8 - (intOf i).toNat)
    case atStart => exact ⟨0, by omega, rfl, He1.out, Hb1.out⟩
    case round =>
      obtain ⟨k, hk, rfl, hext, hb⟩ := hrel
      have hbl := Blk.lt hb
      by_cases hk8 : k < 8
      · have hkI : (k : Int) < 8 := by omega
        obtain ⟨m, hm⟩ : ∃ m, k + m = 7 := ⟨7 - k, by omega⟩
        have hmI : (7 : Int) - k = m := by omega
        have hm8 : (m : Int) < 8 := by omega
        have hcv : w.heap.size < wr.heap.size := hbl
        have hcell : wr.cell? ⟨w.heap.size, m, none⟩ = some (.int .u8 (((arrB k N).getD m 0).toNat : Nat)) := Blk.val hb m _ (by have := arrB_len k N (by omega); simp [byteCells, List.getD]; rw [List.getElem?_eq_getElem (by omega)]; simp)
        have hfr := Blk.free hb m
        have HA := Lib.hid (arrB_next k N hk8)
        have Hb := Lib.hid hb
        have Hext := Lib.hid hext
        generalize (arrB k N).getD m 0 = old at *
        clear hb hext
        go_wp2_with fail
        go_roundw
        case rel => exact ⟨k + 1, by omega, by go_num, (Chg.setCell).ext Hext.out (Nat.le_refl _), by
          have h := Blk.setCell (i := m) (v := .int .u8 ((N : Int) / 2 ^ (8 * k) % 256)) Hb.out
          have hv : (N : Int) / 2 ^ (8 * k) % 256 = ((UInt8.ofNat (N / 256 ^ k)).toNat : Int) := by
            have e1 : (256 : Nat) ^ k = 2 ^ (8 * k) := by rw [Nat.pow_mul]
            rw [e1]
            simp only [UInt8.toNat_ofNat', Int.natCast_emod, Int.natCast_ediv, Int.natCast_pow]
            rfl
          have e : (byteCells (arrB k N)).setIfInBounds m (.int .u8 ((N : Int) / 2 ^ (8 * k) % 256)) = byteCells (arrB (k + 1) N) := by
            have e7 : 7 - k = m := by omega
            rw [← HA.out, e7, hv]
            simp [byteCells, List.map_set]
          rw [e] at h
          exact h⟩
        case measure => simp [intOf]; omega
      · have hkI : decide ((k : Int) < 8) = false := decide_eq_false (by omega)
        obtain rfl : k = 8 := by omega
        have hb8 : Blk wr w.heap.size (.cells (byteCells (beL 8 N)) 124) := hb
        have hcv := run_bytes_string (P := Tryd.prog) wr 94 9 5 w.heap.size 0 8 (beL 8 N) Tryd.underlying94 Tryd.underlying5 Tryd.underlying9 (fun i hi => by rw [Nat.zero_add]; exact Blk.val hb8 i _ (by simp [byteCells, hi, byt, List.getD]))
        rw [beL_len] at hcv
        have Hext := Lib.hid hext
        generalize beL 8 N = B8 at *
        clear hb hb8 hext
        go_wp2_with fail
        go_ret
        exact ⟨ret_str HR.out.symm, Hext.out⟩
  · have hwi : (decide (0 ≤ n) && decide (n ≤ 1099511627776)) = false := by simp; omega
    have HWI := Lib.hid hwi
    have HR : Hid (slotL n = []) := Lib.hid (by unfold slotL; rw [if_pos (by omega)])
    clear hwi
    go_enter Tryd.func50, Tryd.ntmps50
    go_wp2_with (first | (go_at_call 75; refine (within_any _ _ _ _).mono ?_; rw [HWI.out]; rintro e w' ⟨rfl, rfl⟩))
    go_ret
    exact ⟨ret_str HR.out.symm, Ext.refl _⟩
end Go.Proofs.YtkhlglkipeoalaaDoor
/- Plain words of chapter 18: the records of a cluster in their order. -/
namespace Dsd
/-- The records of k pages from page p on, with their addresses, up to one that cannot be read; and the error of that one. -/
noncomputable def scanF (m : Recs) (size : Int) : Nat → Int → List (Int × List UInt8) × Int
  | 0, _ => ([], 0)
  | k + 1, p => if (loadOf m size p).2 ≠ 0 then ([], (loadOf m size p).2) else (chunkA (p * size) (loadOf m size p).1 ++ (scanF m size k (p + 1)).1, (scanF m size k (p + 1)).2)
noncomputable def scanOf (m : Recs) (size fin p : Int) : List (Int × List UInt8) × Int := scanF m size (fin + 1 - p).toNat p
theorem scan_end {m : Recs} {size fin p : Int} (h : fin < p) : scanOf m size fin p = ([], 0) := by
  unfold scanOf
  rw [show (fin + 1 - p).toNat = 0 by omega]; rfl
theorem scan_bad {m : Recs} {size fin p : Int} (h : p ≤ fin) (h2 : (loadOf m size p).2 ≠ 0) : scanOf m size fin p = ([], (loadOf m size p).2) := by
  unfold scanOf
  obtain ⟨k, hk⟩ : ∃ k, (fin + 1 - p).toNat = k + 1 := ⟨(fin - p).toNat, by omega⟩
  rw [hk, scanF, if_pos h2]
theorem scan_ok {m : Recs} {size fin p : Int} (h : p ≤ fin) (h2 : (loadOf m size p).2 = 0) : scanOf m size fin p = (chunkA (p * size) (loadOf m size p).1 ++ (scanOf m size fin (p + 1)).1, (scanOf m size fin (p + 1)).2) := by
  unfold scanOf
  obtain ⟨k, hk⟩ : ∃ k, (fin + 1 - p).toNat = k + 1 := ⟨(fin - p).toNat, by omega⟩
  rw [hk, scanF, if_neg (by omega), show (fin + 1 - (p + 1)).toNat = k by omega]
theorem chunkA_take (base : Int) (L : Recs) (k : Nat) (h : k < L.length) : chunkA base (L.take (k + 1)) = chunkA base (L.take k) ++ [(base + (sumLen (L.take k) : Int), L.getD k [])] := by
  rw [List.take_succ_eq_append_getElem h, chunkA_snoc]
  simp [List.getD, h]
theorem sumLen_takeLe (L : Recs) (k : Nat) : sumLen (L.take k) ≤ sumLen L := by
  have : L = L.take k ++ L.drop k := (List.take_append_drop k L).symm
  conv => rhs; rw [this]
  rw [sumLen_append]
  omega
theorem sumLen_take1 (L : Recs) (k : Nat) (h : k < L.length) : sumLen (L.take (k + 1)) = sumLen (L.take k) + (L.getD k []).length := by
  rw [List.take_succ_eq_append_getElem h, sumLen_append]
  simp [List.getD, h, sumLen]
theorem load_sum {m : Recs} {size p : Int} (h : (loadOf m size p).2 = 0) : (sumLen (loadOf m size p).1 : Int) + 4 ≤ size ∧ 1 ≤ (loadOf m size p).1.length := by
  obtain ⟨_, h2, h3⟩ := loadOf_ok h
  have := enc_sum h2
  have := List.length_pos_iff.2 h3
  omega
theorem load_in {m : Recs} {size p : Int} (h : (loadOf m size p).2 = 0) : 0 ≤ p ∧ p < m.length := by
  have h1 := (loadOf_ok h).1
  unfold pageOf at h1
  split at h1
  · assumption
  · simp at h1
theorem load_fits {m : Recs} {size p : Int} (h : (loadOf m size p).2 = 0) : (loadOf m size p).1.length ≤ 600 := (fits_len (enc_fits (loadOf_ok h).2.1)).1
theorem scan_len (m : Recs) (size fin : Int) : ∀ (k : Nat) (p : Int), 0 ≤ p → m.length ≤ p.toNat + k → (scanOf m size fin p).1.length ≤ 600 * k
  | k, p, h0, hk => by
    by_cases h : p ≤ fin
    · by_cases h2 : (loadOf m size p).2 = 0
      · have h3 := load_in h2
        obtain ⟨j, rfl⟩ : ∃ j, k = j + 1 := ⟨k - 1, by omega⟩
        have := scan_len m size fin j (p + 1) (by omega) (by omega)
        have hf := load_fits h2
        rw [scan_ok h h2, List.length_append, chunkA_len]
        omega
      · rw [scan_bad h h2]; simp
    · rw [scan_end (by omega)]; simp
termination_by k => k
theorem chunkA_append : ∀ (A B : Recs) (base : Int), chunkA base (A ++ B) = chunkA base A ++ chunkA (base + (sumLen A : Int)) B
  | [], B, base => by simp [chunkA, sumLen]
  | x :: A, B, base => by
    simp only [List.cons_append, chunkA]
    rw [chunkA_append A B]
    congr 2
    rw [sumLen_cons]
    push_cast
    congr 1
    omega
theorem chunkA_pre (base : Int) (L : Recs) (k : Nat) : chunkA base (L.take k) <+: chunkA base L := by
  conv => rhs; rw [← List.take_append_drop k L, chunkA_append]
  exact List.prefix_append _ _
end Dsd
namespace Dsd
theorem scanF_congr (m m' : Recs) (size : Int) : ∀ (k : Nat) (p : Int), (∀ j : Nat, j < k → loadOf m size (p + j) = loadOf m' size (p + j)) → scanF m size k p = scanF m' size k p
  | 0, _, _ => rfl
  | k + 1, p, h => by
    have h0 := h 0 (by omega)
    simp only [Int.natCast_zero, Int.add_zero] at h0
    rw [scanF, scanF, h0, scanF_congr m m' size k (p + 1) (fun j hj => by have := h (j + 1) (by omega); push_cast at this; rw [show p + 1 + (j : Int) = p + (j + 1) by omega]; exact this)]
theorem scanF_succ {m : Recs} {size p : Int} (k : Nat) (h : (loadOf m size p).2 = 0) : scanF m size (k + 1) p = (chunkA (p * size) (loadOf m size p).1 ++ (scanF m size k (p + 1)).1, (scanF m size k (p + 1)).2) := by
  show (if (loadOf m size p).2 ≠ 0 then _ else _) = _
  rw [if_neg (by omega)]
theorem scanF_snoc (m : Recs) (size : Int) : ∀ (k : Nat) (p : Int), (∀ j : Nat, j < k + 1 → (loadOf m size (p + j)).2 = 0) → (scanF m size k p).2 = 0 ∧ scanF m size (k + 1) p = ((scanF m size k p).1 ++ chunkA ((p + k) * size) (loadOf m size (p + k)).1, 0)
  | 0, p, h => by
    have h0 := h 0 (by omega)
    simp only [Int.natCast_zero, Int.add_zero] at h0
    refine ⟨rfl, ?_⟩
    rw [scanF_succ 0 h0]
    simp [scanF]
  | k + 1, p, h => by
    have h0 := h 0 (by omega)
    simp only [Int.natCast_zero, Int.add_zero] at h0
    obtain ⟨h1, h2⟩ := scanF_snoc m size k (p + 1) (fun j hj => by have := h (j + 1) (by omega); push_cast at this; rw [show p + 1 + (j : Int) = p + (j + 1) by omega]; exact this)
    rw [scanF_succ (k + 1) h0, scanF_succ k h0, h2]
    refine ⟨h1, ?_⟩
    rw [List.append_assoc, show p + ((k + 1 : Nat) : Int) = p + 1 + k by push_cast; omega]
/-- What is read of a made cluster: all records, in their order. -/
theorem scan_made {size : Int} : ∀ (C : List Recs), GoodC size C → scanF (memOf size C) size C.length 1 = (recsA size C, 0)
  | [], _ => rfl
  | L :: C, h => by
    have hC : GoodC size C := fun M hM => h M (by simp [hM])
    have hl : ∀ j : Nat, j < C.length + 1 → loadOf (memOf size (L :: C)) size (1 + j) = ((L :: C).reverse.getD j [], 0) := fun j hj => by
      have := load_at (p := 1 + j) h (by omega) (by simp; omega)
      rw [show (1 : Int) + (j : Int) = ((1 + j : Nat) : Int) by push_cast; rfl, this]
      simp
    have hr : ∀ j : Nat, j < C.length → (L :: C).reverse.getD j [] = C.reverse.getD j [] := fun j hj => by
      rw [List.reverse_cons]
      simp [List.getD, List.getElem?_append_left (show j < C.reverse.length by simpa using hj)]
    have hlast : (L :: C).reverse.getD C.length [] = L := by
      rw [List.reverse_cons]
      simp [List.getD]
    obtain ⟨_, h2⟩ := scanF_snoc (memOf size (L :: C)) size C.length 1 (fun j hj => by rw [hl j hj])
    have h3 := scanF_congr (memOf size (L :: C)) (memOf size C) size C.length 1 (fun j hj => by
      rw [hl j (by omega), hr j hj]
      have := load_at (p := 1 + j) hC (by omega) (by omega)
      rw [show (1 : Int) + (j : Int) = ((1 + j : Nat) : Int) by push_cast; rfl, this]
      simp)
    rw [List.length_cons, h2, hl C.length (by omega), hlast, h3, scan_made C hC]
    simp only [recsA]
    rw [show (1 : Int) + (C.length : Int) = ((C.length : Int) + 1) by omega]
    simp
end Dsd
/- The iterator over a cluster's records: its contract for every loop body that keeps what it reads. -/
namespace Dsd
open Go Go.RowKit
theorem own_kc {n0 : Nat} {tc : Nat → TypeId → Prop} {w w' : World} {base : Nat} {e : TypeId} {size : Nat} {v : Value} {n : Nat} {xs : List Value} (h : w.ownsRow base e size v n xs) (k : Kc n0 tc w w') (ht : ∀ b, ¬ tc b e) : w'.ownsRow base e size v n xs := by
  refine ⟨h.1, ?_⟩
  rcases h.2 with hn | ⟨b, cap, cur, rfl, hb, hg, rest⟩
  · exact .inl hn
  · exact .inr ⟨b, cap, cur, rfl, hb, k.cells b cur e _ (ht b) hg, rest⟩
end Dsd
namespace Go.Proofs.YtkhlglkipeoalaaDoor
open Go.RowKit Dsd
attribute [local go_sem] Oper.semAt_some

/-- The variables of the iterator: the page, the cluster, the pointer to the error's variable, the error. -/
structure ItAt (g1 g0 g2 eb : Nat) (q : Value) (h : Hd) (d : DS) (pg er : Int) (w : World) : Prop where
  page : Blk w g1 (.cells #[.int .i64 pg] 3)
  cl : Blk w g0 (.cells #[q, .int .i64 h.applied, .int .i64 h.count, .int .i64 h.fin, .int .i64 h.root, .int .i64 h.height, .int .i64 h.splits, .int .i64 h.areas, .int .i64 d.id, .int .i64 d.org, .int .i64 d.format, .int .i64 d.length, .int .i64 d.block, .int .i64 d.keyAt, .int .i64 d.keyLength, .int .i64 d.interval, .int .i64 d.area, .int .i64 d.freeInterval, .int .i64 d.freeArea, .int .i64 d.base, .int .i64 d.altAt, .int .i64 d.altLength, .bool d.unique, .int .i64 d.cls, .string ⟨d.volume.toArray⟩, .string ⟨d.owner.toArray⟩, .int .i64 d.created, .int .i64 d.expires, .bool d.archived] 77)
  ptr : Blk w g2 (.cells #[.pointer (some ⟨eb, 0, none⟩)] 101)
  err : Blk w eb (.cells #[.int .i64 er] 31)
theorem ItAt.ext {g1 g0 g2 eb : Nat} {q : Value} {h : Hd} {d : DS} {pg er : Int} {w w' : World} (i : ItAt g1 g0 g2 eb q h d pg er w) (e : Ext w w') : ItAt g1 g0 g2 eb q h d pg er w' := ⟨e.blk _ _ i.page, e.blk _ _ i.cl, e.blk _ _ i.ptr, e.blk _ _ i.err⟩
/-- The types of the variables that the iterator turns. -/
def tIt (g1 eb b : Nat) (t : TypeId) : Prop := (b = g1 ∧ t = 3) ∨ (b = eb ∧ t = 31)
/-- The types of what it reads. -/
def tRd (t : TypeId) : Prop := t = 3 ∨ t = 31 ∨ t = 77 ∨ t = 101 ∨ t = 9
theorem ItAt.kc {g1 g0 g2 eb : Nat} {q : Value} {h : Hd} {d : DS} {pg er : Int} {w w' : World} {n0 : Nat} {tc : Nat → TypeId → Prop} (i : ItAt g1 g0 g2 eb q h d pg er w) (k : Kc n0 tc w w') (ht : ∀ b t, tRd t → ¬ tc b t) : ItAt g1 g0 g2 eb q h d pg er w' :=
  ⟨k.blk i.page (ht _ _ (.inl rfl)), k.blk i.cl (ht _ _ (.inr (.inr (.inl rfl)))), k.blk i.ptr (ht _ _ (.inr (.inr (.inr (.inl rfl))))), k.blk i.err (ht _ _ (.inr (.inl rfl)))⟩

/-- The iterator that 'records' hands back. -/
theorem records_any (q : Value) (h : Hd) (d : DS) (pg er : Int) (eb : Nat) (w : World) (he : Blk w eb (.cells #[.int .i64 er] 31)) :
    Calls Tryd.prog 49 #[.agg #[q, .int .i64 h.applied, .int .i64 h.count, .int .i64 h.fin, .int .i64 h.root, .int .i64 h.height, .int .i64 h.splits, .int .i64 h.areas, .int .i64 d.id, .int .i64 d.org, .int .i64 d.format, .int .i64 d.length, .int .i64 d.block, .int .i64 d.keyAt, .int .i64 d.keyLength, .int .i64 d.interval, .int .i64 d.area, .int .i64 d.freeInterval, .int .i64 d.freeArea, .int .i64 d.base, .int .i64 d.altAt, .int .i64 d.altLength, .bool d.unique, .int .i64 d.cls, .string ⟨d.volume.toArray⟩, .string ⟨d.owner.toArray⟩, .int .i64 d.created, .int .i64 d.expires, .bool d.archived], .int .i64 pg, .pointer (some ⟨eb, 0, none⟩)] w fun e w' => Ext w w' ∧ ∃ g1 g0 g2, w.heap.size ≤ g1 ∧
      e = .returned (.func (.func 74) #[] #[.pointer (some ⟨g1, 0, none⟩), .pointer (some ⟨g0, 0, none⟩), .pointer (some ⟨g2, 0, none⟩)]) ∧ ItAt g1 g0 g2 eb q h d pg er w' := by
  go_enter Tryd.func49, Tryd.ntmps49
  go_wp2
  go_ret
  refine ⟨((Ext.alloc _ _).trans (Ext.alloc _ _)).trans (Ext.alloc _ _), _, _, _, by omega, rfl, ?_⟩
  have k1 : Blk (w.alloc (.cells #[q, .int .i64 h.applied, .int .i64 h.count, .int .i64 h.fin, .int .i64 h.root, .int .i64 h.height, .int .i64 h.splits, .int .i64 h.areas, .int .i64 d.id, .int .i64 d.org, .int .i64 d.format, .int .i64 d.length, .int .i64 d.block, .int .i64 d.keyAt, .int .i64 d.keyLength, .int .i64 d.interval, .int .i64 d.area, .int .i64 d.freeInterval, .int .i64 d.freeArea, .int .i64 d.base, .int .i64 d.altAt, .int .i64 d.altLength, .bool d.unique, .int .i64 d.cls, .string ⟨d.volume.toArray⟩, .string ⟨d.owner.toArray⟩, .int .i64 d.created, .int .i64 d.expires, .bool d.archived] 77)) w.heap.size (.cells #[q, .int .i64 h.applied, .int .i64 h.count, .int .i64 h.fin, .int .i64 h.root, .int .i64 h.height, .int .i64 h.splits, .int .i64 h.areas, .int .i64 d.id, .int .i64 d.org, .int .i64 d.format, .int .i64 d.length, .int .i64 d.block, .int .i64 d.keyAt, .int .i64 d.keyLength, .int .i64 d.interval, .int .i64 d.area, .int .i64 d.freeInterval, .int .i64 d.freeArea, .int .i64 d.base, .int .i64 d.altAt, .int .i64 d.altLength, .bool d.unique, .int .i64 d.cls, .string ⟨d.volume.toArray⟩, .string ⟨d.owner.toArray⟩, .int .i64 d.created, .int .i64 d.expires, .bool d.archived] 77) := Blk.new _ _
  have k2 : Blk ((w.alloc (.cells #[q, .int .i64 h.applied, .int .i64 h.count, .int .i64 h.fin, .int .i64 h.root, .int .i64 h.height, .int .i64 h.splits, .int .i64 h.areas, .int .i64 d.id, .int .i64 d.org, .int .i64 d.format, .int .i64 d.length, .int .i64 d.block, .int .i64 d.keyAt, .int .i64 d.keyLength, .int .i64 d.interval, .int .i64 d.area, .int .i64 d.freeInterval, .int .i64 d.freeArea, .int .i64 d.base, .int .i64 d.altAt, .int .i64 d.altLength, .bool d.unique, .int .i64 d.cls, .string ⟨d.volume.toArray⟩, .string ⟨d.owner.toArray⟩, .int .i64 d.created, .int .i64 d.expires, .bool d.archived] 77)).alloc (.cells #[.int .i64 pg] 3)) (w.heap.size + 1) (.cells #[.int .i64 pg] 3) := Blk.new1 _ _ _ (by simp)
  exact ⟨Blk.alloc k2 _, Blk.alloc (Blk.alloc k1 _) _, Blk.new1 _ _ _ (by simp), Blk.alloc (Blk.alloc (Blk.alloc he _) _) _⟩

def encR (x : Int × List UInt8) : Array Value := #[.agg #[.int .i64 x.1, .string ⟨x.2.toArray⟩]]
def pageIn (g : Nat) (w : World) : Int := match w.cell? ⟨g, 0, none⟩ with
  | some (.int _ n) => n
  | _ => 0
theorem pageIn_blk {g : Nat} {w : World} {x : Int} {t : TypeId} (h : Blk w g (.cells #[.int .i64 x] t)) : pageIn g w = x := by
  unfold pageIn
  rw [Blk.val h 0 (.int .i64 x) rfl]
/-- What the iterator tells: all have come (and the error's variable holds the scan's error); a part has come. -/
def ScS (R : List (Int × List UInt8) × Int) (eb : Nat) (xs : List (Int × List UInt8)) (w : World) : Prop := xs = R.1 ∧ Blk w eb (.cells #[.int .i64 R.2] 31)
def ScP (R : List (Int × List UInt8) × Int) (xs : List (Int × List UInt8)) (_ : World) : Prop := xs <+: R.1
/-- What stands between two pages. -/
structure RecIn (w0 : World) (g1 g0 g2 eb : Nat) (q : Value) (h : Hd) (d : DS) (m : List (List UInt8)) (R : List (Int × List UInt8) × Int) (J : List (Int × List UInt8) → World → Prop) (pg : Int) (pre : List (Int × List UInt8)) (w : World) : Prop where
  ext : Ext w0 w
  it : ItAt g1 g0 g2 eb q h d pg 0 w
  pos : 1 ≤ pg
  fst : pre ++ (scanOf m d.interval h.fin pg).1 = R.1
  snd : (scanOf m d.interval h.fin pg).2 = R.2
  inv : J pre w

set_option maxRecDepth 100000 in
set_option maxHeartbeats 4000000 in
theorem records_iter (p : Option Addr) (n cap : Nat) (m : List (List UInt8)) (h : Hd) (d : DS) (p0 : Int) (g1 g0 g2 eb : Nat) (w0 w : World) (hs : Strs w0 p m) (hn : m.length = n) (hm : Small m) (hv : isSizeB d.interval = true) (hf : h.fin ≤ 16777216) (hp : 1 ≤ p0) (he : Ext w0 w) (hg1 : w0.heap.size ≤ g1) (heb : w0.heap.size ≤ eb)
    (hi : ItAt g1 g0 g2 eb (.iface 29 (.slice p n cap)) h d p0 0 w) (hgw : g1 < w.heap.size) (hebw : eb < w.heap.size) (tB : Nat → TypeId → Prop) (hB : ∀ b t, tRd t → ¬ tB b t) :
    IterAt Tryd.prog 74 #[.pointer (some ⟨g1, 0, none⟩), .pointer (some ⟨g0, 0, none⟩), .pointer (some ⟨g2, 0, none⟩)] encR w0.heap.size (tIt g1 eb) tB (ScS (scanOf m d.interval h.fin p0) eb) (ScP (scanOf m d.interval h.fin p0)) (fun pre x => pre ++ [x] <+: (scanOf m d.interval h.fin p0).1) w := by
  intro l J Jx W hx hJ hJx hY h0
  have Hs := Lib.hid hs
  have Hn := Lib.hid hn
  have Hm := Lib.hid hm
  have HJ := Lib.hid hJ
  have HJx := Lib.hid hJx
  have HY := Lib.hid hY
  have HB := Lib.hid hB
  have hiv : 128 ≤ d.interval ∧ d.interval ≤ 512 := by rcases isSize_spec hv with h | h | h <;> omega
  obtain ⟨hi0, hi1⟩ := hiv
  have HIn : Hid (RecIn w0 g1 g0 g2 eb (.iface 29 (.slice p n cap)) h d m (scanOf m d.interval h.fin p0) J p0 [] W) := Lib.hid ⟨he.trans hx, hi.ext hx, hp, by simp, rfl, h0⟩
  generalize scanOf m d.interval h.fin p0 = R at *
  clear hs hn hm hJ hJx hY hB hi h0 hv
  show Calls Tryd.prog 74 #[.func (.yield l) #[] #[], .pointer (some ⟨g1, 0, none⟩), .pointer (some ⟨g0, 0, none⟩), .pointer (some ⟨g2, 0, none⟩)] W _
  go_enter Tryd.func74, Tryd.ntmps74
  go_wp2
  go_loopw [5] (fun _ wr => ∃ pg pre, RecIn w0 g1 g0 g2 eb (.iface 29 (.slice p n cap)) h d m R J pg pre wr) (fun _ wr => (h.fin + 1 - pageIn g1 wr).toNat)
  case atStart => exact ⟨p0, [], HIn.out⟩
  case round =>
    obtain ⟨pg, pre, hin⟩ := hrel
    have c1 : wr.cell? ⟨g1, 0, none⟩ = some (.int .i64 pg) := Blk.val hin.it.page 0 _ rfl
    have c2 : wr.cell? ⟨g0, 3, none⟩ = some (.int .i64 h.fin) := Blk.val hin.it.cl 3 _ rfl
    have hpos := hin.pos
    have Hin := Lib.hid hin
    clear hin
    by_cases hle : pg ≤ h.fin
    · have hleI : decide (pg ≤ h.fin) = true := decide_eq_true hle
      have hbcl := Hin.out.it.cl
      have HL := Lib.hid (load_any p cap n m h d pg wr (Hs.out.ext Hin.out.ext) Hn.out Hm.out)
      have hpm : 0 ≤ pg * d.interval ∧ pg * d.interval ≤ 8589934592 := by
        have h1 := Int.mul_le_mul (show pg ≤ 16777216 by omega) hi1 (by omega) (by omega)
        have h2 := Int.mul_nonneg (show (0 : Int) ≤ pg by omega) (show 0 ≤ d.interval by omega)
        omega
      obtain ⟨hpm0, hpm1⟩ := hpm
      by_cases hld : (loadOf m d.interval pg).2 = 0
      · have HL2 : Hid (Calls Tryd.prog 52 #[.agg #[.iface 29 (.slice p n cap), .int .i64 h.applied, .int .i64 h.count, .int .i64 h.fin, .int .i64 h.root, .int .i64 h.height, .int .i64 h.splits, .int .i64 h.areas, .int .i64 d.id, .int .i64 d.org, .int .i64 d.format, .int .i64 d.length, .int .i64 d.block, .int .i64 d.keyAt, .int .i64 d.keyLength, .int .i64 d.interval, .int .i64 d.area, .int .i64 d.freeInterval, .int .i64 d.freeArea, .int .i64 d.base, .int .i64 d.altAt, .int .i64 d.altLength, .bool d.unique, .int .i64 d.cls, .string ⟨d.volume.toArray⟩, .string ⟨d.owner.toArray⟩, .int .i64 d.created, .int .i64 d.expires, .bool d.archived], .int .i64 pg] wr fun e w2 => ∃ q2 c2, e = .returned (.tuple #[.slice q2 (loadOf m d.interval pg).1.length c2, .int .i64 0]) ∧ Ext wr w2 ∧ Small (loadOf m d.interval pg).1 ∧ w2.ownsRow wr.heap.size 9 1 (.slice q2 (loadOf m d.interval pg).1.length c2) (loadOf m d.interval pg).1.length ((loadOf m d.interval pg).1.map fun s => .string ⟨s.toArray⟩)) :=
          Lib.hid (HL.out.mono fun e w2 ⟨he2, h⟩ => by
            rcases h with ⟨h1, _⟩ | ⟨_, q2, c2, h2, h3, h4⟩
            · exact absurd hld h1
            · exact ⟨q2, c2, h2, he2, h3, h4⟩)
        have HSc := Lib.hid (scan_ok hle hld)
        obtain ⟨hsum, hlen⟩ := load_sum hld
        generalize (loadOf m d.interval pg).1 = L at *
        clear hld HL
        go_upto_region 6 with (first | (refine wpList_row rfl 77 (.tmp 2) rfl _ rfl _ _ _ hbcl clDesc rfl clSize ?_) | (go_at_call 52; refine HL2.out.mono ?_; rintro e w2 ⟨q2, c2, rfl, he2, hsm, hown⟩; have c1 := (show w2.cell? ⟨g1, 0, none⟩ = some (.int .i64 pg) from Blk.val (he2.blk _ _ Hin.out.it.page) 0 _ rfl); have c3 := (show w2.cell? ⟨g0, 15, none⟩ = some (.int .i64 d.interval) from Blk.val (he2.blk _ _ Hin.out.it.cl) 15 _ rfl)))
        have hz0 := Hin.out.ext.size
        have hj2 := HJ.out _ _ _ (Kc.of_ext he2 hz0) (KeepsFrom.of_ext he2) Hin.out.inv
        have HRel : Hid (Ext w0 w2 ∧ ItAt g1 g0 g2 eb (.iface 29 (.slice p n cap)) h d pg 0 w2 ∧ w2.ownsRow wr.heap.size 9 1 (.slice q2 L.length c2) L.length (L.map fun s => .string ⟨s.toArray⟩) ∧ J (pre ++ chunkA (pg * d.interval) (L.take 0)) w2) := Lib.hid ⟨Hin.out.ext.trans he2, Hin.out.it.ext he2, hown, by simpa [chunkA] using hj2⟩
        have hz2 := he2.size
        have Hsm := Lib.hid hsm
        have hll : L.length ≤ 1000000 := hsm.1
        clear hown hsm hj2 he2
        generalize wr.heap.size = B2 at *
        go_wp2_with fail
        go_loopw [7, 35] (fun at_ i wr => ∃ k : Nat, k ≤ L.length ∧ i = .int .i64 k ∧ at_ = .int .i64 (pg * d.interval + (sumLen (L.take k) : Int)) ∧ Ext w0 wr ∧ ItAt g1 g0 g2 eb (.iface 29 (.slice p n cap)) h d pg 0 wr ∧ wr.ownsRow B2 9 1 (.slice q2 L.length c2) L.length (L.map fun s => .string ⟨s.toArray⟩) ∧ J (pre ++ chunkA (pg * d.interval) (L.take k)) wr) (fun _ i _ => L.length - (intOf i).toNat)
        case atStart => exact ⟨0, Nat.zero_le _, rfl, by simp [sumLen], HRel.out⟩
        case round =>
          obtain ⟨k, hk, rfl, rfl, hex, hit, hown, hj⟩ := hrel
          have hst := sumLen_takeLe L k
          by_cases hlt : k < L.length
          · have hltI : (k : Int) < L.length := by omega
            obtain ⟨q3, c3', he3, hsq, _, _, _⟩ := own_strs_p hown
            cases he3
            obtain ⟨b, off, rfl, hbb, hc⟩ := hsq.at k hlt
            have hck := hc k hlt
            have HT := Lib.hid (chunkA_take (pg * d.interval) L k hlt)
            have HU := Lib.hid (sumLen_take1 L k hlt)
            have hsl := Hsm.out.at k
            generalize L.getD k [] = s at *
            have hst2 := sumLen_takeLe L (k + 1)
            rw [HU.out] at hst2
            generalize sumLen (L.take k) = sk at *
            generalize hat : pg * d.interval + (sk : Int) = at_ at *
            have hat0 : 0 ≤ at_ ∧ at_ ≤ 8589935104 := by omega
            obtain ⟨ha0, ha1⟩ := hat0
            have Hhat := Lib.hid hat
            have hpx : (pre ++ chunkA (pg * d.interval) (L.take k)) ++ [(at_, s)] <+: R.1 := by
              have h1 := Hin.out.fst
              rw [HSc.out] at h1
              rw [← h1, List.append_assoc, ← HT.out]
              exact (List.prefix_append_right_inj _).2 ((chunkA_pre _ _ _).trans (List.prefix_append _ _))
            have hYx := HY.out _ (at_, s) wr hj hpx
            have Hpx := Lib.hid hpx
            clear hpx
            have Hex := Lib.hid hex
            have Hit := Lib.hid hit
            have Hown := Lib.hid hown
            clear hc hsq hex hit hown hj hat
            obtain ⟨fn, tmps, assign, body, hy, hR⟩ := hYx
            dsimp only [encR] at hy
            go_upto_region 9 with (fail)
            refine (wpIn_wide (n := 3)).1 ?_
            gi_wp2
            refine hR.mono ?_
            rintro e W' (⟨rfl, hj', hk'⟩ | ⟨rfl, hjx'⟩)
            · have HRel2 : Hid (Ext w0 W' ∧ ItAt g1 g0 g2 eb (.iface 29 (.slice p n cap)) h d pg 0 W' ∧ W'.ownsRow B2 9 1 (.slice (some ⟨b, off, none⟩) L.length c2) L.length (L.map fun s => .string ⟨s.toArray⟩) ∧ J (pre ++ chunkA (pg * d.interval) (L.take (k + 1))) W') :=
                Lib.hid ⟨Ext.trans' Hex.out hk'.below, Hit.out.kc hk' HB.out, own_kc Hown.out hk' (fun b => HB.out b _ (.inr (.inr (.inr (.inr rfl))))), by rw [HT.out, ← List.append_assoc]; exact hj'⟩
              clear hj' hk' hy hR
              gi_wp2
              go_wp2_with fail
              go_roundw
              case rel => exact ⟨k + 1, by omega, by go_num, by rw [HU.out, ← Hhat.out]; go_num, HRel2.out⟩
              case measure => simp [intOf]; omega
            · clear hy hR
              gi_wp2
              go_wp2_with fail
              exact bodyPost_ret (results_none rfl _ _ _) rfl ⟨⟨_, rfl⟩, .inr ⟨_, Hpx.out, hjx'⟩⟩
          · have hltI : decide ((k : Int) < L.length) = false := decide_eq_false (by omega)
            obtain rfl : k = L.length := by omega
            rw [List.take_length] at hj
            have c1 : wr.cell? ⟨g1, 0, none⟩ = some (.int .i64 pg) := Blk.val hit.page 0 _ rfl
            have c2' : wr.frozen? ⟨g1, 0, none⟩ = false := Blk.free hit.page 0
            go_wp2_with fail
            have hc := Chg.setCell (w := wr) (g := g1) (i := 0) (v := .int .i64 (pg + 1))
            have h1 := Hin.out.fst
            have h2 := Hin.out.snd
            rw [HSc.out] at h1 h2
            have hpn : Blk (wr.setCell ⟨g1, 0, none⟩ (.int .i64 (pg + 1))) g1 (.cells #[.int .i64 (pg + 1)] 3) := Blk.setCell hit.page
            refine ⟨⟨pg + 1, pre ++ chunkA (pg * d.interval) L, hc.ext hex hg1, ⟨hpn, hc.blk hit.cl (blk_ne hit.cl hit.page (by decide)), hc.blk hit.ptr (blk_ne hit.ptr hit.page (by decide)), hc.blk hit.err (blk_ne hit.err hit.page (by decide))⟩, by omega, by rw [List.append_assoc]; exact h1, h2, HJ.out _ _ _ (Kc.of_chg hc hg1 hit.page (.inl ⟨rfl, rfl⟩)) (KeepsFrom.of_chg hc hit.page) hj⟩, ?_⟩
            rw [pageIn_blk hpn, pageIn_blk Hin.out.it.page]
            omega
      · have HL2 : Hid (Calls Tryd.prog 52 #[.agg #[.iface 29 (.slice p n cap), .int .i64 h.applied, .int .i64 h.count, .int .i64 h.fin, .int .i64 h.root, .int .i64 h.height, .int .i64 h.splits, .int .i64 h.areas, .int .i64 d.id, .int .i64 d.org, .int .i64 d.format, .int .i64 d.length, .int .i64 d.block, .int .i64 d.keyAt, .int .i64 d.keyLength, .int .i64 d.interval, .int .i64 d.area, .int .i64 d.freeInterval, .int .i64 d.freeArea, .int .i64 d.base, .int .i64 d.altAt, .int .i64 d.altLength, .bool d.unique, .int .i64 d.cls, .string ⟨d.volume.toArray⟩, .string ⟨d.owner.toArray⟩, .int .i64 d.created, .int .i64 d.expires, .bool d.archived], .int .i64 pg] wr fun e w2 => e = .returned (.tuple #[.slice none 0 0, .int .i64 (loadOf m d.interval pg).2]) ∧ Ext wr w2) :=
          Lib.hid (HL.out.mono fun e w2 ⟨he2, h⟩ => by
            rcases h with ⟨_, h1⟩ | ⟨h1, _⟩
            · exact ⟨h1, he2⟩
            · exact absurd h1 hld)
        have HSc := Lib.hid (scan_bad hle hld)
        have hldI : ((loadOf m d.interval pg).2 != 0) = true := by simpa using hld
        generalize (loadOf m d.interval pg).2 = er at *
        clear hld HL
        go_wp2_with (first | (refine wpList_row rfl 77 (.tmp 2) rfl _ rfl _ _ _ hbcl clDesc rfl clSize ?_) | (go_at_call 52; refine HL2.out.mono ?_; rintro e w2 ⟨rfl, he2⟩; have c4 := (show w2.cell? ⟨g2, 0, none⟩ = some (.pointer (some ⟨eb, 0, none⟩)) from Blk.val (he2.blk _ _ Hin.out.it.ptr) 0 _ rfl); have c5 := (show w2.cell? ⟨eb, 0, none⟩ = some (.int .i64 0) from Blk.val (he2.blk _ _ Hin.out.it.err) 0 _ rfl); have c6 := (show w2.frozen? ⟨eb, 0, none⟩ = false from Blk.free (he2.blk _ _ Hin.out.it.err) 0)))
        have hz0 := Hin.out.ext.size
        have herr := he2.blk _ _ Hin.out.it.err
        have hj2 := HJ.out _ _ _ (Kc.of_ext he2 hz0) (KeepsFrom.of_ext he2) Hin.out.inv
        have hj3 := HJ.out _ _ _ (Kc.of_chg (Chg.setCell (w := w2) (g := eb) (i := 0) (v := .int .i64 er)) heb herr (.inr ⟨rfl, rfl⟩)) (KeepsFrom.of_chg Chg.setCell herr) hj2
        have h1 := Hin.out.fst
        have h2 := Hin.out.snd
        rw [HSc.out] at h1 h2
        simp only [List.append_nil] at h1
        exact bodyPost_ret (results_none rfl _ _ _) rfl ⟨⟨_, rfl⟩, .inl ⟨pre, ⟨h1, by rw [← h2]; exact Blk.setCell herr⟩, hj3⟩⟩
    · have hleI : decide (pg ≤ h.fin) = false := decide_eq_false hle
      go_wp2_with fail
      go_end0
      have h1 := Hin.out.fst
      have h2 := Hin.out.snd
      rw [scan_end (by omega)] at h1 h2
      simp only [List.append_nil] at h1
      exact ⟨⟨_, rfl⟩, .inl ⟨pre, ⟨h1, by rw [← h2]; exact Hin.out.it.err⟩, Hin.out.inv⟩⟩
end Go.Proofs.YtkhlglkipeoalaaDoor
/- The program's All. -/
namespace Dsd
/-- A record with its address as a key. -/
def pairA (x : Int × List UInt8) : List UInt8 × List UInt8 := (slotL x.1, x.2)
/-- What All answers. -/
noncomputable def allOf (m : Recs) (h : Hd) (d : DS) : List (List UInt8 × List UInt8) × Int :=
  if doorOf h d 1 ≠ 0 then ([], doorOf h d 1) else if (scanOf m d.interval h.fin 1).2 ≠ 0 then ([], (scanOf m d.interval h.fin 1).2) else ((scanOf m d.interval h.fin 1).1.map pairA, 0)
end Dsd
namespace Go.Proofs.YtkhlglkipeoalaaDoor
open Go.RowKit Dsd
attribute [local go_sem] Oper.semAt_some
/-- What All hands back: the pairs in a row of their own. -/
def AllOut (R : List (List UInt8 × List UInt8) × Int) (w : World) (e : Ending) (w' : World) : Prop :=
  Ext w w' ∧ ∃ q k c, e = .returned (.tuple #[.slice q k c, .int .i64 R.2]) ∧ k = R.1.length ∧ w'.ownsRow w.heap.size 61 2 (.slice q k c) R.1.length (prCells R.1)
theorem allOut_no {R : List (List UInt8 × List UInt8) × Int} {w w' : World} {c : Int} (he : Ext w w') (hr : R = ([], c)) : AllOut R w (.returned (.tuple #[.slice none 0 0, .int .i64 c])) w' := by
  subst hr; exact ⟨he, _, _, _, rfl, rfl, by simp [prCells], .inl ⟨rfl, rfl⟩⟩

theorem allOut_yes {R : List (List UInt8 × List UInt8) × Int} {A : List (List UInt8 × List UInt8)} {w w' : World} {q : Option Addr} {k c : Nat} (he : Ext w w') (hr : R = (A, 0)) (hk : k = A.length) (ho : w'.ownsRow w.heap.size 61 2 (.slice q k c) A.length (prCells A)) : AllOut R w (.returned (.tuple #[.slice q k c, .int .i64 0])) w' := by
  subst hr; exact ⟨he, _, _, _, rfl, hk, ho⟩

set_option maxRecDepth 100000 in
set_option maxHeartbeats 4000000 in
theorem All_any (p : Option Addr) (n cap : Nat) (m : Recs) (h : Hd) (d : DS) (w : World) (hs : Strs w p m) (hn : m.length = n) (hm : Small m) (hml : m.length ≤ 10000) :
    Calls Tryd.prog 25 #[.iface 29 (.slice p n cap), .agg #[.int .i64 h.applied, .int .i64 h.count, .int .i64 h.fin, .int .i64 h.root, .int .i64 h.height, .int .i64 h.splits, .int .i64 h.areas], .agg #[.int .i64 d.id, .int .i64 d.org, .int .i64 d.format, .int .i64 d.length, .int .i64 d.block, .int .i64 d.keyAt, .int .i64 d.keyLength, .int .i64 d.interval, .int .i64 d.area, .int .i64 d.freeInterval, .int .i64 d.freeArea, .int .i64 d.base, .int .i64 d.altAt, .int .i64 d.altLength, .bool d.unique, .int .i64 d.cls, .string ⟨d.volume.toArray⟩, .string ⟨d.owner.toArray⟩, .int .i64 d.created, .int .i64 d.expires, .bool d.archived]] w (AllOut (allOf m h d) w) := by
  have Hs := Lib.hid hs
  have Hn := Lib.hid hn
  have Hm := Lib.hid hm
  have Hop := Lib.hid (open_any p n cap h d)
  have hlen := scan_len m d.interval h.fin m.length 1 (by omega) (by omega)
  clear hs hn hm
  refine calls_of_wp_marks Tryd.func25 rfl ?_
  simp only [Tryd.ntmps25, List.size_toArray, List.length_cons, List.length_nil, Nat.reduceAdd, Nat.reduceSub, Array.replicate_succ, Array.replicate_zero, List.push_toArray, List.append_toArray, List.nil_append, List.cons_append]
  go_upto_region 1 with (fail)
  refine wp_name (fun w0 => Ext w w0 ∧ HdAt w0 w.heap.size h ∧ DsAt w0 (w.heap.size + 1) d) (hd_ds w h d) ?_
  rintro w0 ⟨he0, hb1, hb2⟩
  by_cases hdo : doorOf h d 1 = 0
  · have Hop2 : Hid (∀ w, Calls Tryd.prog 35 #[.iface 29 (.slice p n cap), .agg #[.int .i64 h.applied, .int .i64 h.count, .int .i64 h.fin, .int .i64 h.root, .int .i64 h.height, .int .i64 h.splits, .int .i64 h.areas], .agg #[.int .i64 d.id, .int .i64 d.org, .int .i64 d.format, .int .i64 d.length, .int .i64 d.block, .int .i64 d.keyAt, .int .i64 d.keyLength, .int .i64 d.interval, .int .i64 d.area, .int .i64 d.freeInterval, .int .i64 d.freeArea, .int .i64 d.base, .int .i64 d.altAt, .int .i64 d.altLength, .bool d.unique, .int .i64 d.cls, .string ⟨d.volume.toArray⟩, .string ⟨d.owner.toArray⟩, .int .i64 d.created, .int .i64 d.expires, .bool d.archived]] w fun e w' => e = .returned (.tuple #[.agg #[.iface 29 (.slice p n cap), .int .i64 h.applied, .int .i64 h.count, .int .i64 h.fin, .int .i64 h.root, .int .i64 h.height, .int .i64 h.splits, .int .i64 h.areas, .int .i64 d.id, .int .i64 d.org, .int .i64 d.format, .int .i64 d.length, .int .i64 d.block, .int .i64 d.keyAt, .int .i64 d.keyLength, .int .i64 d.interval, .int .i64 d.area, .int .i64 d.freeInterval, .int .i64 d.freeArea, .int .i64 d.base, .int .i64 d.altAt, .int .i64 d.altLength, .bool d.unique, .int .i64 d.cls, .string ⟨d.volume.toArray⟩, .string ⟨d.owner.toArray⟩, .int .i64 d.created, .int .i64 d.expires, .bool d.archived], .int .i64 0]) ∧ Ext w w') :=
      Lib.hid (fun w => (Hop.out w).mono fun e w' ⟨he, h⟩ => by
        rcases h with ⟨_, h⟩ | ⟨h, _⟩
        · exact ⟨h, he⟩
        · exact absurd hdo h)
    clear Hop
    obtain ⟨hva, hpl, hor⟩ := door_zero hdo
    have v3 := (valid_spec hva).2.2.1
    have p4 := (plain_spec hpl).2.2.2
    have HD := Lib.hid hdo
    have HR : Hid (allOf m h d = _) := Lib.hid (by unfold allOf; rw [if_neg (by simp [HD.out])])
    clear hdo hva hpl hor
    go_upto_region 2 with (first | (refine wpList_ds rfl (.tmp 5) rfl _ rfl d hb2 ?_) | (refine wpList_hd rfl (.tmp 4) rfl _ rfl h hb1 ?_) | (go_at_call 35; refine (Hop2.out _).mono ?_; rintro e w1 ⟨rfl, he1⟩) | (refine wpList_put rfl 77 (.tmp 8) (.tmp 17) rfl _ #[.iface 29 (.slice p n cap), .int .i64 h.applied, .int .i64 h.count, .int .i64 h.fin, .int .i64 h.root, .int .i64 h.height, .int .i64 h.splits, .int .i64 h.areas, .int .i64 d.id, .int .i64 d.org, .int .i64 d.format, .int .i64 d.length, .int .i64 d.block, .int .i64 d.keyAt, .int .i64 d.keyLength, .int .i64 d.interval, .int .i64 d.area, .int .i64 d.freeInterval, .int .i64 d.freeArea, .int .i64 d.base, .int .i64 d.altAt, .int .i64 d.altLength, .bool d.unique, .int .i64 d.cls, .string ⟨d.volume.toArray⟩, .string ⟨d.owner.toArray⟩, .int .i64 d.created, .int .i64 d.expires, .bool d.archived] rfl rfl _ _ (Blk.alloc (Blk.new w1 _) _) clSize rfl (cl_one _ rfl h d) ?_; intro w2 hcl hc2; have hb9 := hc2.blk (Blk.new1 (w1.alloc (.cells clZero 77)) (.cells #[.int .i64 0] 31) (w1.heap.size + 1) (by simp)) (by omega); have c9 := (show w2.cell? ⟨w1.heap.size + 1, 0, none⟩ = some (.int .i64 0) from Blk.val hb9 0 _ rfl); have f9 := (show w2.frozen? ⟨w1.heap.size + 1, 0, none⟩ = false from Blk.free hb9 0)))
    have hE2 : Ext w w2 := hc2.ext ((he0.trans he1).trans ((Ext.alloc _ _).trans (Ext.alloc _ _))) ((he0.trans he1).size)
    have hwcb := (he0.trans he1).size
    have hc3 := Chg.setCell (w := w2) (g := w1.heap.size + 1) (i := 0) (v := .int .i64 0)
    refine wp_name (fun w3 => Ext w w3 ∧ Blk w3 w1.heap.size (.cells #[.iface 29 (.slice p n cap), .int .i64 h.applied, .int .i64 h.count, .int .i64 h.fin, .int .i64 h.root, .int .i64 h.height, .int .i64 h.splits, .int .i64 h.areas, .int .i64 d.id, .int .i64 d.org, .int .i64 d.format, .int .i64 d.length, .int .i64 d.block, .int .i64 d.keyAt, .int .i64 d.keyLength, .int .i64 d.interval, .int .i64 d.area, .int .i64 d.freeInterval, .int .i64 d.freeArea, .int .i64 d.base, .int .i64 d.altAt, .int .i64 d.altLength, .bool d.unique, .int .i64 d.cls, .string ⟨d.volume.toArray⟩, .string ⟨d.owner.toArray⟩, .int .i64 d.created, .int .i64 d.expires, .bool d.archived] 77) ∧ Blk w3 (w1.heap.size + 1) (.cells #[.int .i64 0] 31) ∧ w1.heap.size + 1 < w3.heap.size) ⟨hc3.ext hE2 (by omega), hc3.blk hcl (by omega), Blk.setCell hb9, by have := Blk.lt (Blk.setCell (i := 0) (v := .int .i64 0) hb9); exact this⟩ ?_
    generalize w1.heap.size = cb at *
    clear hc3 hE2 hb9 hc2 hcl he1 he0 hb1 hb2 c9 f9
    rintro w3 ⟨he3, hcl, heb, hz3⟩
    have c9 : w3.cell? ⟨cb + 1, 0, none⟩ = some (.int .i64 0) := Blk.val heb 0 _ rfl
    go_wp2_with (first | (refine wpList_row (o := ⟨some 22, _, _, _, _, _⟩) rfl 77 (.tmp 8) rfl _ rfl _ _ _ (Blk.alloc hcl _) clDesc rfl clSize ?_) | (go_at_call 49; refine (records_any _ h d 1 0 (cb + 1) _ (Blk.alloc heb _)).mono ?_; rintro e w4 ⟨he4, g1, g0, g2, hg1, rfl, hit⟩))
    have hob : Blk w4 w3.heap.size (.cells #[.slice none 0 0] 40) := he4.blk _ _ (Blk.new w3 _)
    have hE4 : Ext w w4 := he3.trans ((Ext.alloc _ _).trans he4)
    have hwob := he3.size
    have hzw4 := hE4.size
    have hg1' : w3.heap.size + 1 ≤ g1 := by simpa using hg1
    clear hg1
    generalize w3.heap.size = ob at *
    have hgz : w.heap.size ≤ g1 := by omega
    have HIt := records_iter p n cap m h d 1 g1 g0 g2 (cb + 1) w w4 Hs.out Hn.out Hm.out v3 p4 (by omega) hE4 hgz (by omega) hit (Blk.lt hit.page) (Blk.lt hit.err) (fun _ t => t = 40 ∨ t = 61) (by rintro b t ht hb; rcases ht with rfl | rfl | rfl | rfl | rfl <;> rcases hb with hb | hb <;> exact absurd hb (by decide))
    generalize hRR : scanOf m d.interval h.fin 1 = R at *
    clear hRR
    have HI0 : Hid (Ext w w4 ∧ ∃ v, Blk w4 ob (.cells #[v] 40) ∧ w4.ownsRow w.heap.size 61 2 v ([] : List (Int × List UInt8)).length (prCells (([] : List (Int × List UInt8)).map pairA))) := Lib.hid ⟨hE4, _, hob, by simpa [prCells] using World.ownsRow_nil _ _ _ _⟩
    have Hit := Lib.hid HIt
    have hl74 := Hit.out
    clear hob hit HIt hcl heb he3 he4 c9 hl74
    refine wp_rangeFunc_kc (n0 := w.heap.size) hE4.size (tI := tIt g1 (cb + 1)) rfl (enters_of Tryd.func74 (by kernel_rfl) rfl) (encs := encR) (fun x => rfl) (fun xs A B k hS => ⟨hS.1, k.blk hS.2 (fun h => h)⟩) (fun xs A B k hS => hS) Hit.out
      (fun pre W => Ext w W ∧ ∃ v, Blk W ob (.cells #[v] 40) ∧ W.ownsRow w.heap.size 61 2 v pre.length (prCells (pre.map pairA))) (fun _ _ _ => False)
      (fun pre A B k ⟨he, v, hb, ho⟩ => ⟨Ext.trans' he k.below, v, k.blk hb (by rintro (⟨_, h⟩ | ⟨_, h⟩) <;> exact absurd h (by decide)), own_kc ho k (by rintro b (⟨_, h⟩ | ⟨_, h⟩) <;> exact absurd h (by decide))⟩) (fun _ _ _ _ _ h => h) HI0.out ?round ?done (fun _ _ _ _ _ _ h => h.elim)
    case round =>
      rintro l pre x W hz ⟨hex, v, hbo, hown⟩ hnx
      dsimp only [encR]
      gi_wp2
      refine ⟨KeepsFrom.of_ext (Ext.alloc _ _), ?_⟩
      intro W2 hk2 hz2
      have hlx : pre.length + 1 ≤ 6000000 := by
        have h1 := List.IsPrefix.length_le hnx
        simp only [List.length_append, List.length_cons, List.length_nil] at h1
        have h2 : 600 * m.length ≤ 600 * 10000 := Nat.mul_le_mul (Nat.le_refl _) hml
        omega
      have hzo : ob < W2.heap.size := Blk.lt (hk2.blk (hbo.alloc (.cells #[.int .i64 x.1, .string ⟨x.2.toArray⟩] 103)) (fun h => h))
      have hfb : Blk W2 W.heap.size (.cells #[.int .i64 x.1, .string ⟨x.2.toArray⟩] 103) := hk2.blk (Blk.new W _) (fun h => h)
      have hbo2 := hk2.blk (hbo.alloc (.cells #[.int .i64 x.1, .string ⟨x.2.toArray⟩] 103)) (fun h => h)
      have hex2 : Ext w W2 := Ext.trans' (hex.trans (Ext.alloc W (.cells #[.int .i64 x.1, .string ⟨x.2.toArray⟩] 103))) hk2.below
      have Hk := Lib.hid (show Kc w.heap.size (fun _ t => t = 40 ∨ t = 61) W W2 from (Kc.of_ext (Ext.alloc W (.cells #[.int .i64 x.1, .string ⟨x.2.toArray⟩] 103)) hex.size).trans (hk2.mono (fun _ _ h => h.elim)))
      have Hown := Lib.hid (own_kc (own_ext hown (Ext.alloc W (.cells #[.int .i64 x.1, .string ⟨x.2.toArray⟩] 103))) hk2 (fun _ h => h))
      obtain ⟨qo, co, rfl⟩ := own_slice hown
      have c0 : W2.cell? ⟨ob, 0, none⟩ = some (.slice qo pre.length co) := Blk.val hbo2 0 _ rfl
      have c1 : W2.cell? ⟨W.heap.size, 0, none⟩ = some (.int .i64 x.1) := Blk.val hfb 0 _ rfl
      have c2 : W2.cell? ⟨W.heap.size, 1, none⟩ = some (.string ⟨x.2.toArray⟩) := Blk.val hfb 1 _ rfl
      have hzf := Blk.lt hfb
      have Hbo2 := Lib.hid hbo2
      have Hex2 := Lib.hid hex2
      have Hpre := Lib.hid (show prCells ((pre ++ [x]).map pairA) = prCells (pre.map pairA) ++ [.string ⟨(slotL x.1).toArray⟩, .string ⟨x.2.toArray⟩] by simp [prCells, pairA])
      have HSl := Lib.hid (Slot_any x.1)
      obtain ⟨xa, xr⟩ := x
      simp only at c1 c2 Hpre HSl
      generalize slotL xa = sl at *
      clear hfb hbo hbo2 hex hex2 hown hk2 hz2 hnx
      refine wpIn_block ?_
      refine region_mk_in (.inr ⟨l, rfl⟩) (fun ⟨_, _, h⟩ => h) 8 (by rfl) (Ext.refl W2) (by kernel_rfl) (by kernel_rfl) (by kernel_rfl) ?_
      simp only [List.take_succ_cons, List.take_zero, List.take_nil, List.drop_succ_cons, List.drop_zero, List.drop_nil, List.map_cons, List.map_nil]
      repeat (first
        | (refine wpML_fact (o := ⟨some 32, _, _, _, _, _⟩) (Fresh 1 1 (.cells #[.string ⟨sl.toArray⟩, .string ⟨xr.toArray⟩] 61)) (Fresh.stable _ _ _) rfl ?_ ?_
           · intro a w' he hr K hK
             simp [Reads, Oper.looksAt, Op.operands, Call.operands, factAt, Is] at hr
             go_simp
             exact hK _ _ (Ext.alloc _ _) (Fresh.new _ _ _ _)
           simp only [setL, List.set_cons_succ, List.set_cons_zero])
        | (refine wpML_move _ _ rfl (by first | exact .inl rfl | exact .inr rfl) rfl (by first | exact Is.stable _ | exact AppF.stable _ | exact WrF.stable _ | exact PtrF.stable _ _ | exact IfcF.stable (Fresh.stable _ _ _) _ | exact PairF.stable (RowF.stable _ _ _ _) _ | exact RowF.stable _ _ _ _ | exact Fresh.stable _ _ _) ?_
           simp only [setL, List.set_cons_succ, List.set_cons_zero, List.getD_cons_succ, List.getD_cons_zero])
        | (refine wpML_moveC _ rfl (by first | exact .inl rfl | exact .inr rfl) ?_
           simp only [setL, List.set_cons_succ, List.set_cons_zero])
        | (apply wpML_det rfl
           · intro a w' he hr K hK
             simp [Reads, Oper.looksAt, Op.operands, Call.operands, factAt, Is] at hr
             have hx := he.cell
             go_simp
             try go_bits
             try (rw [if_neg (by omega)]; go_simp)
             first
               | exact hK _ (Ext.refl _)
               | (refine (HSl.out _).mono ?_; rintro e w'' ⟨rfl, he'⟩; exact hK _ he')
           simp only [setL, List.set_cons_succ, List.set_cons_zero])
        | (apply wpML_det rfl
           · intro a w' he hr K hK
             simp [Reads, Oper.looksAt, Op.operands, Call.operands, factAt, Fresh] at hr
             obtain ⟨b, hr1, hr2⟩ := hr
             go_simp
             exact hK _ (Ext.refl _)
           simp only [setL, List.set_cons_succ, List.set_cons_zero]))
      intro w2 he2
      repeat (first | with_reducible refine rest_is _ _ _ _ ?_ | (with_reducible refine rest_fact _ _ _ _ ?_; intro _ _) | with_reducible refine rest_end _ _ ?_)
      simp only [List.reverse_cons, List.reverse_nil, List.nil_append, List.cons_append]
      rename_i x32 h32
      obtain ⟨b32, rfl, hb32⟩ := h32
      have Hb32 := Lib.hid hb32
      have He2 := Lib.hid he2
      have Hown2 := Lib.hid (own_ext Hown.out he2)
      have Hbo3 := Lib.hid (he2.blk _ _ Hbo2.out)
      have hz2 := he2.size
      have hzw := Hex2.out.size
      clear hb32 he2
      go_wp2_with (at_builtin; go_must (refine wpList_app rfl (.tmp 25) (.tmp 32) 40 61 rfl w.heap.size (.agg #[.string ByteArray.empty, .string ByteArray.empty]) 2 32 Tryd.underlying40 infoPair rfl (by decide) _ pre.length _ rfl Hown2.out _ [.string ⟨sl.toArray⟩, .string ⟨xr.toArray⟩] rfl Hb32.out rfl (by intro u hu; simp at hu; rcases hu with rfl | rfl <;> rfl) (by omega) (by decide) (by omega) ?_; intro v8 w8 hout8 hgr8; obtain ⟨q8, k8, rfl⟩ := own_slice hout8; have hk8 := Kc.of_grown (n0 := w.heap.size) (tc := fun _ t => t = 61) hgr8 Hown2.out (Nat.le_refl _) (by omega) (fun _ => rfl); have hf8 := KeepsFrom.of_grown (B := w4.heap.size) hgr8 Hown2.out; have hb8 := hk8.blk Hbo3.out (by decide); have c8 := (show w8.cell? ⟨ob, 0, none⟩ = some (.slice qo pre.length co) from Blk.val hb8 0 _ rfl); have f8 := (show w8.frozen? ⟨ob, 0, none⟩ = false from Blk.free hb8 0); have Hout8 := Lib.hid hout8; have Hk8 := Lib.hid hk8; have Hf8 := Lib.hid hf8; have Hb8 := Lib.hid hb8; clear hout8 hgr8 hk8 hf8 hb8))
      have hc := Chg.setCell (w := w8) (g := ob) (i := 0) (v := .slice q8 (pre.length + 1) k8)
      exact ⟨((KeepsFrom.of_ext He2.out).trans Hf8.out).trans (KeepsFrom.of_chg hc Hb8.out), Hk.out.trans ((Kc.of_ext He2.out hzw).trans ((Hk8.out.mono (fun _ _ h => .inr h)).trans (Kc.of_chg hc hwob Hb8.out (.inl rfl)))),
        hc.ext (Ext.trans' (Hex2.out.trans He2.out) Hk8.out.below) hwob, _, Blk.setCell Hb8.out, by rw [Hpre.out, List.length_append]; exact own_chgT Hout8.out (by decide) Hb8.out hc⟩
    case done =>
      rintro D xs W hD ⟨rfl, heb⟩ ⟨hex, v, hbo, hown⟩ hK
      obtain ⟨qv, cv, rfl⟩ := own_slice hown
      have c0 : W.cell? ⟨ob, 0, none⟩ = some (.slice qv R.1.length cv) := Blk.val hbo 0 _ rfl
      have c1 : W.cell? ⟨cb + 1, 0, none⟩ = some (.int .i64 R.2) := Blk.val heb 0 _ rfl
      obtain ⟨RL, RE⟩ := R
      simp only at c0 c1 HR hown
      have Hown := Lib.hid hown
      have HK := Lib.hid hK
      have Hex := Lib.hid hex
      clear hown hK hex hbo heb
      dsimp only
      by_cases hre : RE = 0
      · subst hre
        have HR2 : Hid (allOf m h d = (RL.map pairA, 0)) := Lib.hid (by rw [HR.out]; simp)
        go_wp2_with fail
        have hkp := Kc.of_put (n0 := w.heap.size) (tc := fun _ _ => False) (.deferred none) HK.out rfl (by omega)
        refine postM_mark HK.out (results_tmp2 rfl _ _ _) ?_
        show AllOut _ _ (.returned (.tuple #[.slice qv RL.length cv, .int .i64 0])) _
        exact (allOut_yes (Ext.trans' Hex.out hkp.below) HR2.out (by simp) (by simpa using own_kc Hown.out hkp (fun _ h => h)))
      · have hreI : (RE != 0) = true := by simpa using hre
        have HR2 : Hid (allOf m h d = ([], RE)) := Lib.hid (by rw [HR.out, if_pos hre])
        clear hre
        go_wp2_with fail
        go_quiet (fail)
        go_wp2_with fail
        have hkp := Kc.of_put (W := W.drewN nq) (n0 := w.heap.size) (tc := fun _ _ => False) (.deferred none) HK.out rfl (by omega)
        refine postM_mark HK.out (results_tmp2 rfl _ _ _) ?_
        show AllOut _ _ (.returned (.tuple #[.slice none 0 0, .int .i64 RE])) _
        exact (allOut_no (Ext.trans' (Hex.out.trans (Ext.drewN W nq)) hkp.below) HR2.out)
  · have Hop2 : Hid (∀ w, Calls Tryd.prog 35 #[.iface 29 (.slice p n cap), .agg #[.int .i64 h.applied, .int .i64 h.count, .int .i64 h.fin, .int .i64 h.root, .int .i64 h.height, .int .i64 h.splits, .int .i64 h.areas], .agg #[.int .i64 d.id, .int .i64 d.org, .int .i64 d.format, .int .i64 d.length, .int .i64 d.block, .int .i64 d.keyAt, .int .i64 d.keyLength, .int .i64 d.interval, .int .i64 d.area, .int .i64 d.freeInterval, .int .i64 d.freeArea, .int .i64 d.base, .int .i64 d.altAt, .int .i64 d.altLength, .bool d.unique, .int .i64 d.cls, .string ⟨d.volume.toArray⟩, .string ⟨d.owner.toArray⟩, .int .i64 d.created, .int .i64 d.expires, .bool d.archived]] w fun e w' => e = .returned (.tuple #[.agg clZero, .int .i64 (doorOf h d 1)]) ∧ Ext w w') :=
      Lib.hid (fun w => (Hop.out w).mono fun e w' ⟨he, h⟩ => by
        rcases h with ⟨h, _⟩ | ⟨_, h⟩
        · exact absurd h hdo
        · exact ⟨h, he⟩)
    clear Hop
    have HR : Hid (allOf m h d = ([], doorOf h d 1)) := Lib.hid (by unfold allOf; rw [if_pos hdo])
    have hdI : (doorOf h d 1 != 0) = true := by simpa using hdo
    generalize doorOf h d 1 = er at *
    clear hdo
    go_wp2_with (first | (refine wpList_ds rfl (.tmp 5) rfl _ rfl d hb2 ?_) | (refine wpList_hd rfl (.tmp 4) rfl _ rfl h hb1 ?_) | (go_at_call 35; refine (Hop2.out _).mono ?_; rintro e w1 ⟨rfl, he1⟩) | (refine wpList_put rfl 77 (.tmp 8) (.tmp 17) rfl _ clZero rfl rfl _ _ (Blk.alloc (Blk.new w1 _) _) clSize rfl clZero_one ?_; intro w2 hcl hc2; have hb9 := hc2.blk (Blk.new1 (w1.alloc (.cells clZero 77)) (.cells #[.int .i64 0] 31) (w1.heap.size + 1) (by simp)) (by omega); have c9 := (show w2.cell? ⟨w1.heap.size + 1, 0, none⟩ = some (.int .i64 0) from Blk.val hb9 0 _ rfl); have f9 := (show w2.frozen? ⟨w1.heap.size + 1, 0, none⟩ = false from Blk.free hb9 0)))
    have hE3 : Ext w (w2.setCell ⟨w1.heap.size + 1, 0, none⟩ (.int .i64 er)) := Chg.setCell.ext (hc2.ext ((he0.trans he1).trans ((Ext.alloc _ _).trans (Ext.alloc _ _))) ((he0.trans he1).size)) (by have := (he0.trans he1).size; omega)
    have HE3 := Lib.hid hE3
    clear hE3
    go_quiet (fail)
    go_wp2_with fail
    refine postM_ret (results_tmp2 rfl _ _ _) ?_
    show AllOut _ _ (.returned (.tuple #[.slice none 0 0, .int .i64 er])) _
    exact (allOut_no (HE3.out.trans (Ext.drewN _ nq)) HR.out)
end Go.Proofs.YtkhlglkipeoalaaDoor
