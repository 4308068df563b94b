/- A range over a function, at the wide fence: the iterator may keep state of its own in cells, told apart from the body's by the types of its blocks. Over any program. -/
import Derived.Test.YtmnpappbacndlaaGreatDoorB2
import Derived.Test.YtmnpappbacndlaaGreatDoorMono
import Derived.RangeFuncNested
import Derived.RangeFuncBound
import Derived.RangeFuncCalls
import Derived.RangeFuncLeaves
import Derived.OrdersIn
import Derived.TacticsIn
import Derived.OwnWalkIn
import Derived.TacticsInMore
import Derived.LoopNIn
import Derived.LoopIn
import Derived.Shelf.Abstract
set_option linter.unusedSimpArgs false
set_option linter.unusedVariables false
namespace Dsd
open Go Go.RowKit

/-- Below n0 nothing has turned, and of the blocks of cells only those whose type is in tc. -/
structure Kc (n0 : Nat) (tc : Nat → TypeId → Prop) (W W' : World) : Prop where
  below : Below n0 W W'
  cells : ∀ (b : Nat) (cs : Array Value) (t : TypeId) (f : Nat × Nat), ¬ tc b t → W.heap[b]? = some (.cells cs t f) → W'.heap[b]? = some (.cells cs t f)
theorem Kc.refl (n0 : Nat) (tc : Nat → TypeId → Prop) (W : World) : Kc n0 tc W W := ⟨Below.refl _ _, fun _ _ _ _ _ h => h⟩
theorem Kc.trans {n0 : Nat} {tc : Nat → TypeId → Prop} {A B C : World} (h : Kc n0 tc A B) (k : Kc n0 tc B C) : Kc n0 tc A C := ⟨h.below.trans k.below, fun b cs t f ht hb => k.cells b cs t f ht (h.cells b cs t f ht hb)⟩
theorem Kc.mono {n0 : Nat} {tc td : Nat → TypeId → Prop} {A B : World} (h : Kc n0 tc A B) (ht : ∀ b t, tc b t → td b t) : Kc n0 td A B := ⟨h.below, fun b cs t f hn hb => h.cells b cs t f (fun hc => hn (ht b t hc)) hb⟩
theorem Kc.blk {n0 : Nat} {tc : Nat → TypeId → Prop} {A B : World} (h : Kc n0 tc A B) {b : Nat} {cs : Array Value} {t : TypeId} (hb : Blk A b (.cells cs t)) (ht : ¬ tc b t) : Blk B b (.cells cs t) := h.cells b cs t _ ht hb
theorem Kc.of_ext {n0 : Nat} {tc : Nat → TypeId → Prop} {A B : World} (h : Ext A B) (hn : n0 ≤ A.heap.size) : Kc n0 tc A B :=
  ⟨Below.mono h hn, fun b cs t f _ hb => (h.block b (Array.getElem?_eq_some_iff.1 hb).1).trans hb⟩
theorem Kc.of_chg {n0 g : Nat} {tc : Nat → TypeId → Prop} {A B : World} {cs : Array Value} {t : TypeId} (c : Chg g A B) (hg : n0 ≤ g) (hb : Blk A g (.cells cs t)) (ht : tc g t) : Kc n0 tc A B :=
  ⟨⟨c.os, c.tape, c.output, by rw [c.size]; exact Nat.le_refl _, fun k hk => c.block k (by omega)⟩, fun b cs' t' f hn hb' => by
    by_cases e : b = g
    · subst e
      have hb0 : A.heap[b]? = some (.cells cs t) := hb
      rw [hb0] at hb'
      cases hb'
      exact absurd ht hn
    · exact (c.block b e).trans hb'⟩
theorem Kc.of_grown {n0 : Nat} {tc : Nat → TypeId → Prop} {A B : World} {base : Nat} {e : TypeId} {size : Nat} {v : Value} {n : Nat} {xs : List Value} (hg : A.grownBy B v.ownBlock) (ho : A.ownsRow base e size v n xs) (hn : n0 ≤ base) (hb : base ≤ A.heap.size) (ht : ∀ b, tc b e) : Kc n0 tc A B := by
  refine ⟨Below.of_grown hg ho hn hb, fun b cs t f hnt hb' => (hg.block b (Array.getElem?_eq_some_iff.1 hb').1 (fun e => ?_)).trans hb'⟩
  obtain ⟨_, ⟨rfl, _⟩ | ⟨g, cap, cur, rfl, _, hgg, _⟩⟩ := ho
  · simp [Value.ownBlock] at e
  · simp [Value.ownBlock] at e
    subst e
    rw [hgg] at hb'
    cases hb'
    exact hnt (ht _)
theorem Kc.of_put {n0 l : Nat} {tc : Nat → TypeId → Prop} {W : World} {o : Obj} (o' : Obj) (h : W.heap[l]? = some o) (ho : o.isCells = false) (hn : n0 ≤ l) : Kc n0 tc W (W.putObj l o') := by
  have hl := (Array.getElem?_eq_some_iff.1 h).1
  refine ⟨(Below.refl n0 W).grown (grownBy_putObj' W l o') (by omega) (fun k e => by cases e; exact hn), fun b cs t f _ hb => ?_⟩
  refine (World.putObj_heap_other (fun e => ?_)).trans hb
  subst e
  rw [h] at hb
  cases hb
  simp [Obj.isCells] at ho
theorem Below.of_chg {n0 g : Nat} {A B : World} (c : Chg g A B) (hg : n0 ≤ g) : Below n0 A B := ⟨c.os, c.tape, c.output, by rw [c.size]; exact Nat.le_refl _, fun k hk => c.block k (by omega)⟩
theorem KeepsFrom.of_ext {B : Nat} {W W' : World} (h : Ext W W') : KeepsFrom B W W' := ⟨h.size, fun k _ _ hk _ => (h.block k (Array.getElem?_eq_some_iff.1 hk).1).trans hk⟩
theorem KeepsFrom.of_chg {B g : Nat} {W W' : World} {cs : Array Value} {t : TypeId} (c : Chg g W W') (hb : Blk W g (.cells cs t)) : KeepsFrom B W W' :=
  ⟨by rw [c.size]; exact Nat.le_refl _, fun k o _ hk ho => by
    by_cases e : k = g
    · subst e
      have hb0 : W.heap[k]? = some (.cells cs t) := hb
      rw [hb0] at hk
      cases hk
      simp [Obj.isCells] at ho
    · exact (c.block k e).trans hk⟩
theorem KeepsFrom.of_grown {B : Nat} {W W' : World} {base : Nat} {e : TypeId} {size : Nat} {v : Value} {n : Nat} {xs : List Value} (hg : W.grownBy W' v.ownBlock) (ho : W.ownsRow base e size v n xs) : KeepsFrom B W W' :=
  ⟨hg.size, fun k o _ hk hc => (hg.block k (Array.getElem?_eq_some_iff.1 hk).1 (fun e => by
    obtain ⟨_, ⟨rfl, _⟩ | ⟨g, cap, cur, rfl, _, hgg, _⟩⟩ := ho
    · simp [Value.ownBlock] at e
    · simp [Value.ownBlock] at e
      subst e
      rw [hgg] at hk
      cases hk
      simp [Obj.isCells] at hc)).trans hk⟩

/-- How the body of a round may be left: W the world in which the round began, W2 the one in which the body began. -/
def kcPost {α : Type} (B n0 : Nat) (tB : Nat → TypeId → Prop) (I : List α → World → Prop) (Ix : Code → List α → World → Prop) (xs : List α) (W W2 : World) : Exit → Act → World → Prop
  | .normal, _, W' => KeepsFrom B W2 W' ∧ Kc n0 tB W W' ∧ I xs W'
  | .ret, _, W' => KeepsFrom B W2 W' ∧ Ix .ret xs W'
  | .exit id, _, W' => KeepsFrom B W2 W' ∧ Ix (.exit id) xs W'
  | .goto t, _, W' => KeepsFrom B W2 W' ∧ Ix (.goto t) xs W'
  | .panic _, _, _ => False
  | .outgrown, _, _ => False
theorem kcPost_in {α : Type} {B n0 : Nat} {tB : Nat → TypeId → Prop} {I : List α → World → Prop} {Ix : Code → List α → World → Prop} {xs : List α} {W W2 : World} : ¬ LetsOut (kcPost B n0 tB I Ix xs W W2) := fun ⟨_, _, h⟩ => h

/-- What an iterator is told of the rounds, and what it tells: J between two rounds, Jx where a round has said 'no more'. -/
def IterAt {α : Type} (P : Program) (gf : Nat) (lb : Array Value) (encs : α → Array Value) (n0 : Nat) (tI tB : Nat → TypeId → Prop) (S Sp : List α → World → Prop) (Nx : List α → α → Prop) (w : World) : Prop :=
  ∀ (l : Nat) (J Jx : List α → World → Prop) (W : World), Ext w W →
    (∀ pre A B, Kc n0 tI A B → KeepsFrom w.heap.size A B → J pre A → J pre B) → (∀ pre A B, Kc n0 tI A B → KeepsFrom w.heap.size A B → Jx pre A → Jx pre B) →
    (∀ pre x W1, J pre W1 → Nx pre x → YieldAt Fence.wide 2 P l (encs x) W1 fun e W' =>
      (e = .returned (.bool true) ∧ J (pre ++ [x]) W' ∧ Kc n0 tB W1 W') ∨ (e = .returned (.bool false) ∧ Jx (pre ++ [x]) W')) →
    J [] W →
    Calls P gf (#[.func (.yield l) #[] #[]] ++ lb) W fun e W' => (∃ v, e = .returned v) ∧ ((∃ xs, S xs W' ∧ J xs W') ∨ (∃ pre, Sp pre W' ∧ Jx pre W'))

variable {P : Program}
theorem wp_rangeFunc_kc {α : Type} {g : Operand} {ps : Array Tmp} {assign body : Code} {Q : Exit → Act → World → Prop} {a : Act} {w : World} {n0 : Nat} (hn0 : n0 ≤ w.heap.size) {tI tB : Nat → TypeId → Prop}
    {gf : Nat} {lb : Array Value} (hg : a.eval g = .func (.func gf) #[] lb) (eg : ∀ args w, (callFunc gf args).run P w = .ok (.enter gf args) w)
    {encs : α → Array Value} (hps : ∀ x, (encs x).size = ps.size) {S Sp : List α → World → Prop}
    (hS : ∀ xs A B, Kc n0 (fun _ _ => False) A B → S xs A → S xs B) (hSp : ∀ xs A B, Kc n0 (fun _ _ => False) A B → Sp xs A → Sp xs B)
    {Nx : List α → α → Prop} (hseq : IterAt P gf lb encs n0 tI tB S Sp Nx w)
    (I : List α → World → Prop) (Ix : Code → List α → World → Prop) (hI : ∀ pre A B, Kc n0 tI A B → I pre A → I pre B) (hIx : ∀ c pre A B, Kc n0 tI A B → Ix c pre A → Ix c pre B) (h0 : I [] w)
    (hround : ∀ (l : Nat) (pre : List α) (x : α) (W : World), w.heap.size ≤ W.heap.size → I pre W → Nx pre x →
      assign.wpIn (Fence.wide.inRound l) 2 P (Exit.then (fun a1 W1 => KeepsFrom w.heap.size W W1 ∧
        ∀ W2, Kc n0 (fun _ _ => False) W1 W2 → W1.heap.size = W2.heap.size → body.wpIn (Fence.wide.inRound l) 2 P (kcPost w.heap.size n0 tB I Ix (pre ++ [x]) W W2) a1 W2) (fun _ _ _ => False))
        { tmps := (ps.zip (encs x)).foldl (fun t (p, v) => t.setIfInBounds p v) a.tmps, defers := [] } W)
    (hdone : ∀ (D : Nat) (xs : List α) (W : World), w.heap.size ≤ D → S xs W → I xs W → W.heap[D]? = some (.deferred (some [])) → Q .normal { a with defers := { target := .collected D, args := #[] } :: a.defers } W)
    (hstop : ∀ (D : Nat) (c : Code) (pre : List α) (W : World), w.heap.size ≤ D → Sp pre W → Ix c pre W → W.heap[D]? = some (.deferred (some [])) → c.wp P Q { a with defers := { target := .collected D, args := #[] } :: a.defers } W) :
    (Code.rangeFunc g ps assign body).wp P Q a w := by
  refine (wpIn_wide (n := 3)).1 (wpIn_rangeFunc ?_)
  intro fn _
  show ∃ _, _
  obtain ⟨rec, hrec⟩ : ∃ rec : LoopState → Option Code → Loop, rec = fun st pe => { state := st, pending := pe, fn, tmps := a.tmps, params := ps, assign, body, defers := w.heap.size } := ⟨_, rfl⟩
  obtain ⟨W1, hW1⟩ : ∃ W1, (w.alloc (.deferred (some []))).alloc (.loop (rec .ready none)) = W1 := ⟨_, rfl⟩
  have hx1 : Ext w W1 := by rw [← hW1]; exact (Ext.alloc _ _).trans (Ext.alloc _ _)
  have hL1 : W1.heap[w.heap.size + 1]? = some (.loop (rec .ready none)) := by
    rw [← hW1]; have := World.alloc_heap_new (w.alloc (.deferred (some []))) (.loop (rec .ready none)); rwa [World.size_alloc] at this
  have hK1 : W1.heap[w.heap.size]? = some (.deferred (some [])) := by
    rw [← hW1]; exact ((Ext.alloc (w.alloc _) _).block _ (by simp)).trans (World.alloc_heap_new w _)
  have hI1 : I [] W1 := hI _ _ _ (Kc.of_ext hx1 hn0) h0
  refine ⟨w.heap.size + 1, [{ target := .collected w.heap.size, args := #[] }], W1, { target := .fn (.func gf) lb, args := #[.func (.yield (w.heap.size + 1)) #[] #[]] }, W1, gf,
    #[.func (.yield (w.heap.size + 1)) #[] #[]] ++ lb, W1, ?_, ?_, fun _ _ => trivial, ?_, fun _ => by omega, ?_⟩
  · rw [← hW1, hrec]; exact run_enterLoop_outer _ _ _ _ _
  · simp only [resolve, hg]
    simp [go_sem]
  · simp [invoke, go_sem, eg]
  · refine callsIn_wide.2 ((hseq (w.heap.size + 1)
      (fun pre W => (w.heap.size ≤ W.heap.size ∧ I pre W) ∧ W.heap[w.heap.size + 1]? = some (.loop (rec .ready none)) ∧ W.heap[w.heap.size]? = some (.deferred (some [])))
      (fun pre W => ∃ c, Ix c pre W ∧ W.heap[w.heap.size + 1]? = some (.loop (rec .done (some c))) ∧ W.heap[w.heap.size]? = some (.deferred (some [])))
      W1 hx1
      (fun pre A B hk hf ⟨⟨hz, hi⟩, hl, hd⟩ => ⟨⟨Nat.le_trans hz hf.size, hI pre A B hk hi⟩, hf.same _ _ (by omega) hl rfl, hf.same _ _ (Nat.le_refl _) hd rfl⟩)
      (fun pre A B hk hf ⟨c, hi, hl, hd⟩ => ⟨c, hIx c pre A B hk hi, hf.same _ _ (by omega) hl rfl, hf.same _ _ (Nat.le_refl _) hd rfl⟩)
      ?_ ⟨⟨hx1.size, hI1⟩, hL1, hK1⟩).mono ?_)
    · rintro pre x W ⟨⟨hz, hi⟩, hl, hk⟩ hnx
      have hlt : w.heap.size + 1 < W.heap.size := (Array.getElem?_eq_some_iff.1 hl).1
      have hy := run_yield (P := P) (args := encs x) hl (by rw [hrec]; exact hps x)
      rw [hrec] at hy
      refine ⟨fn, _, assign, body, hy, roundIn_of_wpIn trivial ?_⟩
      refine wpIn_mono (hround (w.heap.size + 1) pre x W hz hi hnx) ?_
      rintro e a1 Wa hp
      cases e with
      | normal =>
        obtain ⟨hkf, hbody⟩ := hp
        have hla := hkf.same _ _ (by omega) hl rfl
        have hka := hkf.same _ _ (Nat.le_refl _) hk rfl
        have hlta : w.heap.size + 1 < Wa.heap.size := (Array.getElem?_eq_some_iff.1 hla).1
        refine ⟨_, run_beginRound hla (by rw [hrec]), ?_⟩
        have hl2 : (Wa.putObj (w.heap.size + 1) (.loop { rec .ready none with state := .busy })).heap[w.heap.size + 1]? = some (.loop { rec .ready none with state := .busy }) := World.putObj_heap_same hlta
        have hk2 : (Wa.putObj (w.heap.size + 1) (.loop { rec .ready none with state := .busy })).heap[w.heap.size]? = some (.deferred (some [])) := (World.putObj_heap_other (by omega)).trans hka
        refine wpIn_mono (hbody _ (Kc.of_put _ hla rfl (by omega)) (by simp)) ?_
        generalize Wa.putObj (w.heap.size + 1) (.loop { rec .ready none with state := .busy }) = W2 at *
        have fin : ∀ (jump : Option Code) (W3 : World), KeepsFrom w.heap.size W2 W3 →
            (Instr.endRound (w.heap.size + 1) jump).run P W3 = .ok (.bool jump.isNone) (W3.putObj (w.heap.size + 1) (.loop (rec (if jump.isNone then .ready else .done) jump))) ∧
            W3.heap[w.heap.size + 1]? = some (.loop { rec .ready none with state := .busy }) ∧ w.heap.size ≤ W3.heap.size ∧
            (W3.putObj (w.heap.size + 1) (.loop (rec (if jump.isNone then .ready else .done) jump))).heap[w.heap.size + 1]? = some (.loop (rec (if jump.isNone then .ready else .done) jump)) ∧
            (W3.putObj (w.heap.size + 1) (.loop (rec (if jump.isNone then .ready else .done) jump))).heap[w.heap.size]? = some (.deferred (some [])) := fun jump W3 hk3 => by
          have hl3 := hk3.same _ _ (by omega) hl2 rfl
          have hz3 := (Array.getElem?_eq_some_iff.1 hl3).1
          have := run_endRound (P := P) jump hl3
          rw [hrec] at this ⊢
          exact ⟨this, by rw [hrec] at hl3; exact hl3, by omega, World.putObj_heap_same hz3, (World.putObj_heap_other (by omega)).trans (hk3.same _ _ (Nat.le_refl _) hk2 rfl)⟩
        rintro e a3 W3 hp
        cases e with
        | normal =>
          obtain ⟨hk3, hkc, hi3⟩ := hp
          obtain ⟨hr, hl3, hz3, hl4, hk4⟩ := fin none W3 hk3
          exact ⟨_, _, hr, .inl ⟨rfl, ⟨⟨by simpa using hz3, hI _ _ _ (Kc.of_put _ hl3 rfl (by omega)) hi3⟩, hl4, hk4⟩, hkc.trans (Kc.of_put _ hl3 rfl (by omega))⟩⟩
        | ret =>
          obtain ⟨hk3, hi3⟩ := hp
          obtain ⟨hr, hl3, hz3, hl4, hk4⟩ := fin (some .ret) W3 hk3
          exact ⟨_, _, hr, .inr ⟨rfl, .ret, hIx _ _ _ _ (Kc.of_put _ hl3 rfl (by omega)) hi3, hl4, hk4⟩⟩
        | exit id =>
          obtain ⟨hk3, hi3⟩ := hp
          obtain ⟨hr, hl3, hz3, hl4, hk4⟩ := fin (some (.exit id)) W3 hk3
          exact ⟨_, _, hr, .inr ⟨rfl, .exit id, hIx _ _ _ _ (Kc.of_put _ hl3 rfl (by omega)) hi3, hl4, hk4⟩⟩
        | goto t =>
          obtain ⟨hk3, hi3⟩ := hp
          obtain ⟨hr, hl3, hz3, hl4, hk4⟩ := fin (some (.goto t)) W3 hk3
          exact ⟨_, _, hr, .inr ⟨rfl, .goto t, hIx _ _ _ _ (Kc.of_put _ hl3 rfl (by omega)) hi3, hl4, hk4⟩⟩
        | panic ch => exact hp.elim
        | outgrown => exact hp.elim
      | exit id => exact hp.elim
      | goto t => exact hp.elim
      | ret => exact hp.elim
      | panic ch => exact hp.elim
      | outgrown => exact hp.elim
    · rintro e W2 ⟨⟨v, rfl⟩, (⟨xs, hSx, ⟨_, hi⟩, hl, hk⟩ | ⟨pre, hSx, c, hi, hl, hk⟩)⟩
      · refine ⟨none, _, by have := run_endLoop (P := P) hl (by rw [hrec]; simp); rw [hrec] at this; exact this, ?_⟩
        exact hdone _ xs _ (Nat.le_refl _) (hS _ _ _ (Kc.of_put _ hl rfl (by omega)) hSx) (hI _ _ _ (Kc.of_put _ hl rfl (by omega)) hi) ((World.putObj_heap_other (by omega)).trans hk)
      · refine ⟨some c, _, by have := run_endLoop (P := P) hl (by rw [hrec]; simp); rw [hrec] at this; exact this, ?_⟩
        exact (wpIn_wide (n := 3)).2 (hstop _ c pre _ (Nat.le_refl _) (hSp _ _ _ (Kc.of_put _ hl rfl (by omega)) hSx) (hIx _ _ _ _ (Kc.of_put _ hl rfl (by omega)) hi) ((World.putObj_heap_other (by omega)).trans hk))
theorem blk_ne {w : World} {a b : Nat} {cs ds : Array Value} {t u : TypeId} (h : Blk w a (.cells cs t)) (k : Blk w b (.cells ds u)) (hn : t ≠ u) : a ≠ b := fun e => by
  subst e
  have h' : w.heap[a]? = some (.cells cs t) := h
  have k' : w.heap[a]? = some (.cells ds u) := k
  rw [h'] at k'
  cases k'
  exact hn rfl
end Dsd
/- In a round's frame, and at the wide fence, an operation that is no defer statement is carried out as everywhere: what is proved of it plainly holds there too. Over any program. -/
namespace Dsd
open Go Go.RowKit
/-- A fence that lets all in: the wide one, or the wide one in a round. -/
def Wide (F : Fence) : Prop := F = Fence.wide ∨ ∃ l, F = Fence.wide.inRound l
theorem Wide.calls {F : Fence} (h : Wide F) {n : Nat} {P : Program} {f : FuncId} {args : Array Value} {w : World} {R : Ending → World → Prop} (hc : Calls P f args w R) : CallsIn F n P f args w R := by
  rcases h with rfl | ⟨l, rfl⟩
  · exact callsIn_wide.2 hc
  · exact CallsIn.inRound l (callsIn_wide.2 hc)
theorem Wide.rows {F : Fence} (h : Wide F) {n : Nat} {P : Program} {row : String} {args : Array Value} {w : World} {R : Value → World → Prop} (hc : Rows P row args w R) : RowsIn F n P row args w R := by
  rcases h with rfl | ⟨l, rfl⟩
  · exact fun c cs _ => let ⟨v, w', r, s⟩ := hc c cs; ⟨v, w', r, stepsIn_wide.2 s⟩
  · exact fun c cs _ => let ⟨v, w', r, s⟩ := hc c cs; ⟨v, w', r, stepsIn_wide.2 s⟩
theorem Wide.fn {F : Fence} (h : Wide F) (f : FuncId) : F.fn f := by
  rcases h with rfl | ⟨l, rfl⟩ <;> trivial
theorem Wide.depth {F : Fence} (h : Wide F) : F.depth = none := by
  rcases h with rfl | ⟨l, rfl⟩ <;> rfl
theorem op_in {F : Fence} (hF : Wide F) {n : Nat} {P : Program} {o : Oper} {a : Act} {w : World} {K : Act → World → Prop} {Q : Exit → Act → World → Prop} (hnd : ∀ c, o.op ≠ .defer c) (h : o.wp P a w K Q) : o.wpIn F n P a w K Q := by
  refine ⟨fun f _ => hF.fn f, ?_⟩
  rw [Oper.semAt_eq _ _ _ hnd]
  unfold Oper.wp at h
  have hd := hF.depth
  generalize (execOp a.eval o).run P w = r at h ⊢
  cases r with
  | ok x w' =>
    cases x with
    | enter f args => exact ⟨fun hs => (by rw [hd] at hs; cases hs), hF.calls h⟩
    | row f args => exact ⟨fun hs => (by rw [hd] at hs; cases hs), hF.rows h⟩
    | value v => exact h
    | skip => exact h
    | defer d => exact h
    | _ => exact False.elim h
  | halt x w' =>
    cases x with
    | panic v => exact h
    | _ => exact False.elim h
def noDefer (o : Oper) : Bool := match o.op with
  | .defer _ => false
  | _ => true
theorem noDefer_spec {o : Oper} (h : noDefer o = true) : ∀ c, o.op ≠ .defer c := fun c e => by unfold noDefer at h; rw [e] at h; cases h
theorem wpOpIn_of {F : Fence} (hF : Wide F) {n : Nat} {P : Program} {ops : Array Oper} {Q : Exit → Act → World → Prop} (hQ : ¬ LetsOut Q) (hnd : ∀ (i : Nat) (o : Oper), ops[i]? = some o → noDefer o = true) {i : Nat} {K K' : Act → World → Prop} {a : Act} {w : World} (hK : ∀ a w, K a w → K' a w)
    (h : wpOp P ops Q i K a w) : wpOpIn F n P ops Q i K' a w := by
  unfold wpOp at h
  unfold wpOpIn
  cases ho : ops[i]? with
  | none => simp only [ho] at h ⊢; exact hK _ _ h
  | some o =>
    simp only [ho] at h ⊢
    split
    · rename_i hw
      rw [if_pos hw] at h
      rcases h with h | h
      · exact op_in hF (noDefer_spec (hnd i o ho)) (Oper.wp_mono hK h)
      · exact absurd h.2 hQ
    · rename_i hw
      rw [if_neg hw] at h
      exact ⟨fun f _ => hF.fn f, hK _ _ h⟩
theorem wpAnyIn_of {F : Fence} (hF : Wide F) {n : Nat} {P : Program} {md : Region.Mode} {ops : Array Oper} {Q : Exit → Act → World → Prop} (hQ : ¬ LetsOut Q) (hnd : ∀ (i : Nat) (o : Oper), ops[i]? = some o → noDefer o = true) :
    ∀ (fuel : Nat) (listed : Array Bool) (a : Act) (w : World), wpAny P md ops Q fuel listed a w → wpAnyIn F n P md ops Q fuel listed a w
  | 0, _, _, _, h => h
  | fuel + 1, listed, a, w, h => ⟨h.1, fun i hi => wpOpIn_of hF hQ hnd (fun a w => wpAnyIn_of hF hQ hnd fuel _ a w) (h.2 i hi)⟩
theorem wpListIn_of {F : Fence} (hF : Wide F) {n : Nat} {P : Program} {ops : Array Oper} {Q : Exit → Act → World → Prop} (hQ : ¬ LetsOut Q) : ∀ (l : List Oper) (a : Act) (w : World), l.all noDefer = true → wpList P ops Q l a w → wpListIn F n P ops Q l a w
  | [], _, _, _, h => h
  | o :: l, a, w, hnd, h => by
    rw [List.all_cons, Bool.and_eq_true] at hnd
    unfold wpList at h
    unfold wpListIn
    split
    · rename_i hw
      rw [if_pos hw] at h
      rcases h with h | h
      · exact op_in hF (noDefer_spec hnd.1) (Oper.wp_mono (fun a w h => wpListIn_of hF hQ l a w hnd.2 h) h)
      · exact absurd h.2 hQ
    · rename_i hw
      rw [if_neg hw] at h
      exact ⟨fun f _ => hF.fn f, wpListIn_of hF hQ l _ _ hnd.2 h⟩
/-- A region in a round's frame, out of its plain walk. -/
theorem region_in {F : Fence} (hF : Wide F) {n : Nat} {P : Program} {id : Nat} {l : List Oper} {Q : Exit → Act → World → Prop} {a : Act} {w : World} (hQ : ¬ LetsOut Q) (hnd : l.all noDefer = true) (h : wpList P l.toArray Q l a w) : (Code.region id l.toArray false).wpIn F n P Q a w :=
  wpIn_region_lit (wpListIn_of hF hQ l a w hnd h)
theorem region_draw_in {F : Fence} (hF : Wide F) {n : Nat} {P : Program} {id : Nat} {l : List Oper} {Q : Exit → Act → World → Prop} {a : Act} {w : World} (hm : P.follows .mixedOrders = true) (hQ : ¬ LetsOut Q) (hnd : l.all noDefer = true)
    (h : wpAny P .any l.toArray Q l.toArray.size (Array.replicate l.toArray.size false) a w.drew) : (Code.region id l.toArray true).wpIn F n P Q a w :=
  wpIn_region_any hm (wpAnyIn_of hF hQ (fun i o ho => by
    rw [List.all_eq_true] at hnd
    exact hnd o (List.mem_of_getElem? (by simpa using ho))) _ _ _ _ h)
/-- One operation more at the wide fence. -/
theorem wpListIn_cons {F : Fence} (hF : Wide F) {n : Nat} {P : Program} {ops : Array Oper} {Q : Exit → Act → World → Prop} {o : Oper} {rest : List Oper} {a : Act} {w : World} (hg : o.guard = none) (hnd : noDefer o = true)
    (h : ∀ K : Act → World → Prop, (∀ a w, wpListIn F n P ops Q rest a w → K a w) → o.wp P a w K Q) : wpListIn F n P ops Q (o :: rest) a w := by
  unfold wpListIn
  rw [if_pos (by simp [Region.wanted, hg])]
  exact op_in hF (noDefer_spec hnd) (h _ fun _ _ h => h)
/-- A call of yield. -/
theorem wpListIn_yield {n : Nat} {P : Program} {ops : Array Oper} {Q : Exit → Act → World → Prop} {dst : Option Tmp} {ty : TypeId} {pos : String} {after : Array Edge} {f : Operand} {xs : Array Operand} {ts : Array TypeId} {rest : List Oper} {a : Act} {w : World} {l : Nat} {args : Array Value} {R : Ending → World → Prop}
    (hf : a.eval f = .func (.yield l) #[] #[]) (hargs : xs.map a.eval = args) (hy : YieldAt Fence.wide n P l args w R)
    (hrun : ∀ W, (execOp a.eval ⟨dst, .call { callee := .value f, args := xs, argTypes := ts }, ty, pos, after, none⟩).run P W = (Instr.yield l args).run P W)
    (h : ∀ e w', R e w' → ∃ v, e = .returned v ∧ wpListIn Fence.wide (n + 1) P ops Q rest (a.put dst v) w') :
    wpListIn Fence.wide (n + 1) P ops Q (⟨dst, .call { callee := .value f, args := xs, argTypes := ts }, ty, pos, after, none⟩ :: rest) a w := by
  obtain ⟨fn, tmps, assign, body, hy1, hR⟩ := hy
  unfold wpListIn
  rw [if_pos (by simp [Region.wanted])]
  refine ⟨fun f _ => trivial, ?_⟩
  rw [Oper.semAt_eq _ _ _ (by intro c hc; cases hc), hrun, hy1]
  refine ⟨fun hs => (by cases hs), hR.mono fun e w' hr => ?_⟩
  obtain ⟨v, rfl, hv⟩ := h e w' hr
  exact hv

/-- A function that holds a range over a function: its contract from its body. -/
theorem calls_of_wp_marks {P : Program} {f : FuncId} {fn : Func} {c : Code} {args : Array Value} {w : World} {R : Ending → World → Prop} (hf : P.funcs[f]? = some fn) (hb : fn.body = some c)
    (h : c.wp P (bodyPostM Fence.wide 3 P fn R) { tmps := args ++ Array.replicate (fn.ntmps - args.size) undef, defers := [] } w) : Calls P f args w R :=
  callsIn_wide.1 (callsIn_of_wp_marks hf hb trivial ((wpIn_wide (n := 3)).2 h))
theorem postM_ret {P : Program} {fn : Func} {R : Ending → World → Prop} {tmps : Array Value} {v : Value} {w : World} (hr : (results fn tmps).run P w = .ok v w) (h : R (.returned v) w) : bodyPostM Fence.wide 3 P fn R .ret ⟨tmps, []⟩ w := ⟨v, hr, h⟩
/-- .. behind the loop: the mark is taken up. -/
theorem postM_mark {P : Program} {fn : Func} {R : Ending → World → Prop} {tmps : Array Value} {v : Value} {w : World} {D : Nat} (hD : w.heap[D]? = some (.deferred (some []))) (hr : (results fn tmps).run P (w.putObj D (.deferred none)) = .ok v (w.putObj D (.deferred none))) (h : R (.returned v) (w.putObj D (.deferred none))) :
    bodyPostM Fence.wide 3 P fn R .ret ⟨tmps, [{ target := .collected D, args := #[] }]⟩ w :=
  ⟨by simp, .inl ⟨_, _, rfl, run_takeDeferred hD, ⟨v, hr, h⟩⟩⟩
end Dsd
/- The walk of a drawn region whose facts stand as the world grows (Mono), in a round's frame. Over any program. -/
namespace Dsd
open Go Go.RowKit
section
variable {P : Program} {Q : Exit → Act → World → Prop} {w0 : World} {ds : List Deferred}
theorem any_monoT {a : Act} {w : World} (init tail : List Oper) (he : Ext w0 w) (hB : orderB .any (init ++ tail).toArray a.tmps.size = true) (hF : forcedB .any (init ++ tail) init.length = true)
    (h : wpMonoT P (init ++ tail).toArray Q w0 a.tmps.size a.defers tail init (fun t => Is (a.tmps.getD t undef))) :
    wpAny P .any (init ++ tail).toArray Q (init ++ tail).toArray.size (Array.replicate (init ++ tail).toArray.size false) a w.drew := by
  obtain ⟨S, F, h0, h1, h2, h3, h4⟩ := wpMonoT_steps tail init 0 _ (fun j hj => by simp [List.getElem?_append_left hj]) h
  refine wpAny_mono_tail (md := .any) init tail hF h1 (fun t => by rw [h0]; exact Is.stable _) hB (fun i o => h3 i o (Nat.zero_le _)) (fun i o hi => h2 i o (Nat.zero_le _) (by omega)) (fun a w => by simpa using h4 a w) _ _ _ _ (by simp) ?_ ?_ ?_
  · have := List.countP_le_length (p := fun i => !(Array.replicate (init ++ tail).toArray.size false).getD i false) (l := List.range init.length)
    simp at this ⊢
    omega
  · intro i _
    simp [Array.getElem?_replicate]
    split <;> simp
  · refine ⟨he.trans (Ext.drew w), rfl, rfl, ?_, ?_, ?_, ?_⟩
    · intro j o d hj hd hl
      simp [Array.getElem?_replicate] at hl
      split at hl <;> simp at hl
    · intro j o d hj hd hl
      rw [h0]; rfl
    · intro d _
      rw [h0]; rfl
    · intro j o e hj hl
      simp [Array.getElem?_replicate] at hl
      split at hl <;> simp at hl
theorem region_mk_in {F : Fence} {n : Nat} {id : Nat} {w : World} (hW : Wide F) (hQ : ¬ LetsOut Q) (k : Nat) {l : List Oper} {vs : List Value} (hnd : l.all noDefer = true) (he : Ext w0 w) (hm : P.follows .mixedOrders = true) (hB : orderB .any l.toArray vs.length = true) (hF : forcedB .any l (l.take k).length = true)
    (h : wpML P l.toArray Q w0 (l.drop k) ds (l.take k) (vs.map Is)) : (Code.region id l.toArray true).wpIn F n P Q ⟨vs.toArray, ds⟩ w := by
  refine region_draw_in hW hm hQ hnd ?_
  have hl := take_drop_eq k l
  generalize l.take k = init at *
  generalize l.drop k = tail at *
  subst hl
  refine any_monoT init tail he (by simpa using hB) hF ?_
  have hdst : ∀ o ∈ init, ∀ d, o.dst = some d → d < (vs.map Is).length := by
    intro o ho d hd
    obtain ⟨k, hk⟩ := List.getElem?_of_mem (show o ∈ init ++ tail by simp [ho])
    have := (orderB_spec (ops := (init ++ tail).toArray) hB (i := k) (j := k) (by simpa using hk) (by simpa using hk) hd).1
    simpa using this
  have h1 := wpMono_of_list init (vs.map Is) hdst h
  have e : factAt (vs.map Is) = fun t => Is ((vs.toArray).getD t undef) := by
    funext t
    simp only [factAt, List.getD, List.getElem?_map]
    by_cases ht : t < vs.length
    · simp [ht]
    · simp [List.getElem?_eq_none (Nat.le_of_not_lt ht)]
  rw [e] at h1
  simpa using h1
end
end Dsd
namespace Dsd
open Go Go.RowKit
theorem own_kc {n0 : Nat} {tc : Nat → TypeId → Prop} {w w' : World} {base : Nat} {e : TypeId} {size : Nat} {v : Value} {n : Nat} {xs : List Value} (h : w.ownsRow base e size v n xs) (k : Kc n0 tc w w') (ht : ∀ b, ¬ tc b e) : w'.ownsRow base e size v n xs := by
  refine ⟨h.1, ?_⟩
  rcases h.2 with hn | ⟨b, cap, cur, rfl, hb, hg, rest⟩
  · exact .inl hn
  · exact .inr ⟨b, cap, cur, rfl, hb, k.blk hg (ht b), rest⟩
end Dsd
