/- The bases below a page: what the program's walk yields, what the reference counts. No program in sight. -/
import Derived.Test.YtolmoknjmdmpgaaGreatFA
import Derived.Test.YtolmoknjmdmpgaaGreatB2
import Derived.RangeFuncNested
import Derived.RangeFuncBound
import Derived.RangeFuncCalls
import Derived.RangeFuncLeaves
import Derived.Test.YtolmoknjmdmpgaaGreatMono
import Derived.OrdersIn
import Derived.TacticsIn
import Derived.OwnWalkIn
import Derived.TacticsInMore
import Derived.LoopNIn
import Derived.LoopIn
import Derived.Shelf.Abstract
import Derived.Test.YtolmoknjmdmpgaaGreatDF
import Derived.Test.YtolmoknjmdmpgaaGreatDG
set_option linter.unusedSimpArgs false
set_option linter.unusedVariables false
namespace Dsd
def walkGo (f : Int → List Int × Int) : List Ent → List Int × Int
  | [] => ([], 0)
  | x :: L => if (f x.2).2 ≠ 0 then f x.2 else ((f x.2).1 ++ (walkGo f L).1, (walkGo f L).2)
/-- What the walk yields below a page, and the error that ends it. -/
def walkD (M : List (List UInt8)) (d : DS) : Nat → Int → List Int × Int
  | 0, page => ([page], 0)
  | l + 1, page => if (loadD M d page ((l + 1 : Nat) : Int)).2 ≠ 0 then ([], (loadD M d page ((l + 1 : Nat) : Int)).2) else walkGo (walkD M d l) (loadD M d page ((l + 1 : Nat) : Int)).1.ents
def belowGo (f : Int → Int → List Int × Int) (most : Int) : List Int → List Ent → List Int × Int
  | out, [] => (out, 0)
  | out, x :: L => if (f x.2 (most - (out.length : Int))).2 ≠ 0 then ([], (f x.2 (most - (out.length : Int))).2)
      else if most < ((out ++ (f x.2 (most - (out.length : Int))).1).length : Int) then ([], 8)
      else belowGo f most (out ++ (f x.2 (most - (out.length : Int))).1) L
/-- What the reference counts, at most so many. -/
def belowD (M : List (List UInt8)) (d : DS) : Nat → Int → Int → List Int × Int
  | 0, page, _ => ([page], 0)
  | l + 1, page, most => if (loadD M d page ((l + 1 : Nat) : Int)).2 ≠ 0 then ([], (loadD M d page ((l + 1 : Nat) : Int)).2) else belowGo (belowD M d l) most [] (loadD M d page ((l + 1 : Nat) : Int)).1.ents
/-- The reference's answer tells the walk's. -/
def Agrees (f : Int → List Int × Int) (g : Int → Int → List Int × Int) : Prop :=
  ∀ page most, 0 ≤ most → (g page most).2 ≠ 8 → ((g page most).2 = 0 → f page = ((g page most).1, 0)) ∧ ((g page most).2 ≠ 0 → (f page).2 = (g page most).2 ∧ ((f page).1.length : Int) ≤ most)
theorem go_agrees {f : Int → List Int × Int} {g : Int → Int → List Int × Int} (h : Agrees f g) {most : Int} : ∀ (L : List Ent) (out : List Int), (out.length : Int) ≤ most → (belowGo g most out L).2 ≠ 8 →
    ((belowGo g most out L).2 = 0 → (walkGo f L).2 = 0 ∧ out ++ (walkGo f L).1 = (belowGo g most out L).1) ∧ ((belowGo g most out L).2 ≠ 0 → (walkGo f L).2 = (belowGo g most out L).2 ∧ (out.length : Int) + ((walkGo f L).1.length : Int) ≤ most)
  | [], out, ho, h8 => ⟨fun _ => ⟨rfl, by simp [walkGo, belowGo]⟩, fun h0 => absurd rfl h0⟩
  | x :: L, out, ho, h8 => by
    have hx := h x.2 (most - (out.length : Int)) (by omega)
    unfold belowGo at h8 ⊢
    by_cases h1 : (g x.2 (most - (out.length : Int))).2 ≠ 0
    · rw [if_pos h1] at h8 ⊢
      obtain ⟨a1, a2⟩ := (hx h8).2 h1
      refine ⟨fun h0 => absurd h0 h1, fun _ => ?_⟩
      unfold walkGo
      rw [if_pos (by rw [a1]; exact h1)]
      exact ⟨a1, by omega⟩
    · have h1 : (g x.2 (most - (out.length : Int))).2 = 0 := Classical.byContradiction h1
      rw [if_neg (by rw [h1]; simp)] at h8 ⊢
      have a1 := (hx (by rw [h1]; decide)).1 h1
      have e1 : (f x.2).2 = 0 := by rw [a1]
      have e2 : (f x.2).1 = (g x.2 (most - (out.length : Int))).1 := by rw [a1]
      by_cases h2 : most < ((out ++ (g x.2 (most - (out.length : Int))).1).length : Int)
      · rw [if_pos h2] at h8
        exact absurd rfl h8
      · rw [if_neg h2] at h8 ⊢
        have ih := go_agrees h L (out ++ (g x.2 (most - (out.length : Int))).1) (by omega) h8
        have ew : walkGo f (x :: L) = ((g x.2 (most - (out.length : Int))).1 ++ (walkGo f L).1, (walkGo f L).2) := by
          rw [walkGo, if_neg (by rw [e1]; simp), e2]
        rw [ew]
        refine ⟨fun h0 => ?_, fun h0 => ?_⟩
        · obtain ⟨b1, b2⟩ := ih.1 h0
          exact ⟨b1, by rw [← b2]; simp⟩
        · obtain ⟨b1, b2⟩ := ih.2 h0
          refine ⟨b1, ?_⟩
          simp only [List.length_append] at b2 ⊢
          omega
theorem below_agrees (M : List (List UInt8)) (d : DS) : ∀ l, Agrees (walkD M d l) (belowD M d l)
  | 0, page, most, h0, h8 => ⟨fun _ => rfl, fun h => absurd rfl h⟩
  | l + 1, page, most, h0, h8 => by
    unfold belowD at h8 ⊢
    unfold walkD
    by_cases h1 : (loadD M d page ((l + 1 : Nat) : Int)).2 ≠ 0
    · rw [if_pos h1] at h8 ⊢
      rw [if_pos h1]
      exact ⟨fun h => absurd h h1, fun _ => ⟨rfl, by simpa using h0⟩⟩
    · rw [if_neg h1] at h8 ⊢
      rw [if_neg h1]
      have k := go_agrees (below_agrees M d l) (most := most) (loadD M d page ((l + 1 : Nat) : Int)).1.ents [] (by simpa using h0) h8
      refine ⟨fun h => ?_, fun h => ?_⟩
      · obtain ⟨b1, b2⟩ := k.1 h
        rw [List.nil_append] at b2
        exact Prod.ext b2 b1
      · obtain ⟨b1, b2⟩ := k.2 h
        exact ⟨b1, by simpa using b2⟩
/-- The bases of a tree, and the error. -/
def basesE (M : List (List UInt8)) (h : Hd) (d : DS) : Int := if door22 h d ≠ 0 then 1 else (belowD M d h.height.toNat h.root 4096).2
def basesL (M : List (List UInt8)) (h : Hd) (d : DS) : List Int := if door22 h d ≠ 0 then [] else (belowD M d h.height.toNat h.root 4096).1
end Dsd
/- .. and how a call hands them back. -/
namespace Go.Proofs.YtolmoknjmdmpgaaGreat
open Go.RowKit Dsd
/-- What below hands back. -/
def BelOut (L : List Int) (er : Int) (w : World) (e : Ending) (w' : World) : Prop := Ext w w' ∧ ∃ q c, e = .returned (.tuple #[.slice q L.length c, .int .i64 er]) ∧ w'.ownsRow w.heap.size 3 1 (.slice q L.length c) L.length (intC L)
theorem bel_no {w w' : World} {e : Ending} {c : Int} (h1 : Ext w w') (h2 : e = .returned (.tuple #[.slice none 0 0, .int .i64 c])) : BelOut [] c w e w' := ⟨h1, none, 0, h2, rfl, .inl ⟨rfl, rfl⟩⟩
/-- Few bases, or an error. -/
def acycB (m : List (List UInt8)) (h : Hd) (d : DS) : Bool := (basesE m h d != 8) && decide ((basesL m h d).length ≤ 1000)
end Go.Proofs.YtolmoknjmdmpgaaGreat
/- A range over a function, at the wide fence: the iterator may keep state of its own in cells, told apart from the body's by the types of its blocks. Over any program. -/
namespace Dsd
open Go Go.RowKit

/-- Below n0 nothing has turned, and of the blocks of cells only those whose type is in tc. -/
structure Kc (n0 : Nat) (tc : Nat → TypeId → Prop) (W W' : World) : Prop where
  below : Below n0 W W'
  cells : ∀ (b : Nat) (cs : Array Value) (t : TypeId) (f : Nat × Nat), ¬ tc b t → W.heap[b]? = some (.cells cs t f) → W'.heap[b]? = some (.cells cs t f)
theorem Kc.refl (n0 : Nat) (tc : Nat → TypeId → Prop) (W : World) : Kc n0 tc W W := ⟨Below.refl _ _, fun _ _ _ _ _ h => h⟩
theorem Kc.trans {n0 : Nat} {tc : Nat → TypeId → Prop} {A B C : World} (h : Kc n0 tc A B) (k : Kc n0 tc B C) : Kc n0 tc A C := ⟨h.below.trans k.below, fun b cs t f ht hb => k.cells b cs t f ht (h.cells b cs t f ht hb)⟩
theorem Kc.mono {n0 : Nat} {tc td : Nat → TypeId → Prop} {A B : World} (h : Kc n0 tc A B) (ht : ∀ b t, tc b t → td b t) : Kc n0 td A B := ⟨h.below, fun b cs t f hn hb => h.cells b cs t f (fun hc => hn (ht b t hc)) hb⟩
theorem Kc.blk {n0 : Nat} {tc : Nat → TypeId → Prop} {A B : World} (h : Kc n0 tc A B) {b : Nat} {cs : Array Value} {t : TypeId} (hb : Blk A b (.cells cs t)) (ht : ¬ tc b t) : Blk B b (.cells cs t) := h.cells b cs t _ ht hb
theorem Kc.of_ext {n0 : Nat} {tc : Nat → TypeId → Prop} {A B : World} (h : Ext A B) (hn : n0 ≤ A.heap.size) : Kc n0 tc A B :=
  ⟨Below.mono h hn, fun b cs t f _ hb => (h.block b (Array.getElem?_eq_some_iff.1 hb).1).trans hb⟩
theorem Kc.of_chg {n0 g : Nat} {tc : Nat → TypeId → Prop} {A B : World} {cs : Array Value} {t : TypeId} (c : Chg g A B) (hg : n0 ≤ g) (hb : Blk A g (.cells cs t)) (ht : tc g t) : Kc n0 tc A B :=
  ⟨⟨c.os, c.tape, c.output, by rw [c.size]; exact Nat.le_refl _, fun k hk => c.block k (by omega)⟩, fun b cs' t' f hn hb' => by
    by_cases e : b = g
    · subst e
      have hb0 : A.heap[b]? = some (.cells cs t) := hb
      rw [hb0] at hb'
      cases hb'
      exact absurd ht hn
    · exact (c.block b e).trans hb'⟩
theorem Kc.of_grown {n0 : Nat} {tc : Nat → TypeId → Prop} {A B : World} {base : Nat} {e : TypeId} {size : Nat} {v : Value} {n : Nat} {xs : List Value} (hg : A.grownBy B v.ownBlock) (ho : A.ownsRow base e size v n xs) (hn : n0 ≤ base) (hb : base ≤ A.heap.size) (ht : ∀ b, tc b e) : Kc n0 tc A B := by
  refine ⟨Below.of_grown hg ho hn hb, fun b cs t f hnt hb' => (hg.block b (Array.getElem?_eq_some_iff.1 hb').1 (fun e => ?_)).trans hb'⟩
  obtain ⟨_, ⟨rfl, _⟩ | ⟨g, cap, cur, rfl, _, hgg, _⟩⟩ := ho
  · simp [Value.ownBlock] at e
  · simp [Value.ownBlock] at e
    subst e
    rw [hgg] at hb'
    cases hb'
    exact hnt (ht _)
theorem Kc.of_put {n0 l : Nat} {tc : Nat → TypeId → Prop} {W : World} {o : Obj} (o' : Obj) (h : W.heap[l]? = some o) (ho : o.isCells = false) (hn : n0 ≤ l) : Kc n0 tc W (W.putObj l o') := by
  have hl := (Array.getElem?_eq_some_iff.1 h).1
  refine ⟨(Below.refl n0 W).grown (grownBy_putObj' W l o') (by omega) (fun k e => by cases e; exact hn), fun b cs t f _ hb => ?_⟩
  refine (World.putObj_heap_other (fun e => ?_)).trans hb
  subst e
  rw [h] at hb
  cases hb
  simp [Obj.isCells] at ho
theorem Below.of_chg {n0 g : Nat} {A B : World} (c : Chg g A B) (hg : n0 ≤ g) : Below n0 A B := ⟨c.os, c.tape, c.output, by rw [c.size]; exact Nat.le_refl _, fun k hk => c.block k (by omega)⟩
theorem KeepsFrom.of_ext {B : Nat} {W W' : World} (h : Ext W W') : KeepsFrom B W W' := ⟨h.size, fun k _ _ hk _ => (h.block k (Array.getElem?_eq_some_iff.1 hk).1).trans hk⟩
theorem KeepsFrom.of_chg {B g : Nat} {W W' : World} {cs : Array Value} {t : TypeId} (c : Chg g W W') (hb : Blk W g (.cells cs t)) : KeepsFrom B W W' :=
  ⟨by rw [c.size]; exact Nat.le_refl _, fun k o _ hk ho => by
    by_cases e : k = g
    · subst e
      have hb0 : W.heap[k]? = some (.cells cs t) := hb
      rw [hb0] at hk
      cases hk
      simp [Obj.isCells] at ho
    · exact (c.block k e).trans hk⟩
theorem KeepsFrom.of_grown {B : Nat} {W W' : World} {base : Nat} {e : TypeId} {size : Nat} {v : Value} {n : Nat} {xs : List Value} (hg : W.grownBy W' v.ownBlock) (ho : W.ownsRow base e size v n xs) : KeepsFrom B W W' :=
  ⟨hg.size, fun k o _ hk hc => (hg.block k (Array.getElem?_eq_some_iff.1 hk).1 (fun e => by
    obtain ⟨_, ⟨rfl, _⟩ | ⟨g, cap, cur, rfl, _, hgg, _⟩⟩ := ho
    · simp [Value.ownBlock] at e
    · simp [Value.ownBlock] at e
      subst e
      rw [hgg] at hk
      cases hk
      simp [Obj.isCells] at hc)).trans hk⟩

/-- How the body of a round may be left: W the world in which the round began, W2 the one in which the body began. -/
def kcPost {α : Type} (B n0 : Nat) (tB : Nat → TypeId → Prop) (I : List α → World → Prop) (Ix : Code → List α → World → Prop) (xs : List α) (W W2 : World) : Exit → Act → World → Prop
  | .normal, _, W' => KeepsFrom B W2 W' ∧ Kc n0 tB W W' ∧ I xs W'
  | .ret, _, W' => KeepsFrom B W2 W' ∧ Ix .ret xs W'
  | .exit id, _, W' => KeepsFrom B W2 W' ∧ Ix (.exit id) xs W'
  | .goto t, _, W' => KeepsFrom B W2 W' ∧ Ix (.goto t) xs W'
  | .panic _, _, _ => False
  | .outgrown, _, _ => False
theorem kcPost_in {α : Type} {B n0 : Nat} {tB : Nat → TypeId → Prop} {I : List α → World → Prop} {Ix : Code → List α → World → Prop} {xs : List α} {W W2 : World} : ¬ LetsOut (kcPost B n0 tB I Ix xs W W2) := fun ⟨_, _, h⟩ => h

/-- What an iterator is told of the rounds, and what it tells: J between two rounds, Jx where a round has said 'no more'. -/
def IterAt {α : Type} (P : Program) (gf : Nat) (lb : Array Value) (encs : α → Array Value) (n0 : Nat) (tI tB : Nat → TypeId → Prop) (S Sp : List α → World → Prop) (Nx : List α → α → Prop) (w : World) : Prop :=
  ∀ (l : Nat) (J Jx : List α → World → Prop) (W : World), Ext w W →
    (∀ pre A B, Kc n0 tI A B → KeepsFrom w.heap.size A B → J pre A → J pre B) → (∀ pre A B, Kc n0 tI A B → KeepsFrom w.heap.size A B → Jx pre A → Jx pre B) →
    (∀ pre x W1, J pre W1 → Nx pre x → YieldAt Fence.wide 2 P l (encs x) W1 fun e W' =>
      (e = .returned (.bool true) ∧ J (pre ++ [x]) W' ∧ Kc n0 tB W1 W') ∨ (e = .returned (.bool false) ∧ Jx (pre ++ [x]) W')) →
    J [] W →
    Calls P gf (#[.func (.yield l) #[] #[]] ++ lb) W fun e W' => (∃ v, e = .returned v) ∧ ((∃ xs, S xs W' ∧ J xs W') ∨ (∃ pre, Sp pre W' ∧ Jx pre W'))

variable {P : Program}
theorem wp_rangeFunc_kc {α : Type} {g : Operand} {ps : Array Tmp} {assign body : Code} {Q : Exit → Act → World → Prop} {a : Act} {w : World} {n0 : Nat} (hn0 : n0 ≤ w.heap.size) {tI tB : Nat → TypeId → Prop}
    {gf : Nat} {lb : Array Value} (hg : a.eval g = .func (.func gf) #[] lb) (eg : ∀ args w, (callFunc gf args).run P w = .ok (.enter gf args) w)
    {encs : α → Array Value} (hps : ∀ x, (encs x).size = ps.size) {S Sp : List α → World → Prop}
    (hS : ∀ xs A B, Kc n0 (fun _ _ => False) A B → S xs A → S xs B) (hSp : ∀ xs A B, Kc n0 (fun _ _ => False) A B → Sp xs A → Sp xs B)
    {Nx : List α → α → Prop} (hseq : IterAt P gf lb encs n0 tI tB S Sp Nx w)
    (I : List α → World → Prop) (Ix : Code → List α → World → Prop) (hI : ∀ pre A B, Kc n0 tI A B → I pre A → I pre B) (hIx : ∀ c pre A B, Kc n0 tI A B → Ix c pre A → Ix c pre B) (h0 : I [] w)
    (hround : ∀ (l : Nat) (pre : List α) (x : α) (W : World), w.heap.size ≤ W.heap.size → I pre W → Nx pre x →
      assign.wpIn (Fence.wide.inRound l) 2 P (Exit.then (fun a1 W1 => KeepsFrom w.heap.size W W1 ∧
        ∀ W2, Kc n0 (fun _ _ => False) W1 W2 → W1.heap.size = W2.heap.size → body.wpIn (Fence.wide.inRound l) 2 P (kcPost w.heap.size n0 tB I Ix (pre ++ [x]) W W2) a1 W2) (fun _ _ _ => False))
        { tmps := (ps.zip (encs x)).foldl (fun t (p, v) => t.setIfInBounds p v) a.tmps, defers := [] } W)
    (hdone : ∀ (D : Nat) (xs : List α) (W : World), w.heap.size ≤ D → S xs W → I xs W → W.heap[D]? = some (.deferred (some [])) → Q .normal { a with defers := { target := .collected D, args := #[] } :: a.defers } W)
    (hstop : ∀ (D : Nat) (c : Code) (pre : List α) (W : World), w.heap.size ≤ D → Sp pre W → Ix c pre W → W.heap[D]? = some (.deferred (some [])) → c.wp P Q { a with defers := { target := .collected D, args := #[] } :: a.defers } W) :
    (Code.rangeFunc g ps assign body).wp P Q a w := by
  refine (wpIn_wide (n := 3)).1 (wpIn_rangeFunc ?_)
  intro fn _
  show ∃ _, _
  obtain ⟨rec, hrec⟩ : ∃ rec : LoopState → Option Code → Loop, rec = fun st pe => { state := st, pending := pe, fn, tmps := a.tmps, params := ps, assign, body, defers := w.heap.size } := ⟨_, rfl⟩
  obtain ⟨W1, hW1⟩ : ∃ W1, (w.alloc (.deferred (some []))).alloc (.loop (rec .ready none)) = W1 := ⟨_, rfl⟩
  have hx1 : Ext w W1 := by rw [← hW1]; exact (Ext.alloc _ _).trans (Ext.alloc _ _)
  have hL1 : W1.heap[w.heap.size + 1]? = some (.loop (rec .ready none)) := by
    rw [← hW1]; have := World.alloc_heap_new (w.alloc (.deferred (some []))) (.loop (rec .ready none)); rwa [World.size_alloc] at this
  have hK1 : W1.heap[w.heap.size]? = some (.deferred (some [])) := by
    rw [← hW1]; exact ((Ext.alloc (w.alloc _) _).block _ (by simp)).trans (World.alloc_heap_new w _)
  have hI1 : I [] W1 := hI _ _ _ (Kc.of_ext hx1 hn0) h0
  refine ⟨w.heap.size + 1, [{ target := .collected w.heap.size, args := #[] }], W1, { target := .fn (.func gf) lb, args := #[.func (.yield (w.heap.size + 1)) #[] #[]] }, W1, gf,
    #[.func (.yield (w.heap.size + 1)) #[] #[]] ++ lb, W1, ?_, ?_, fun _ _ => trivial, ?_, fun _ => by omega, ?_⟩
  · rw [← hW1, hrec]; exact run_enterLoop_outer _ _ _ _ _
  · simp only [resolve, hg]
    simp [go_sem]
  · simp [invoke, go_sem, eg]
  · refine callsIn_wide.2 ((hseq (w.heap.size + 1)
      (fun pre W => (w.heap.size ≤ W.heap.size ∧ I pre W) ∧ W.heap[w.heap.size + 1]? = some (.loop (rec .ready none)) ∧ W.heap[w.heap.size]? = some (.deferred (some [])))
      (fun pre W => ∃ c, Ix c pre W ∧ W.heap[w.heap.size + 1]? = some (.loop (rec .done (some c))) ∧ W.heap[w.heap.size]? = some (.deferred (some [])))
      W1 hx1
      (fun pre A B hk hf ⟨⟨hz, hi⟩, hl, hd⟩ => ⟨⟨Nat.le_trans hz hf.size, hI pre A B hk hi⟩, hf.same _ _ (by omega) hl rfl, hf.same _ _ (Nat.le_refl _) hd rfl⟩)
      (fun pre A B hk hf ⟨c, hi, hl, hd⟩ => ⟨c, hIx c pre A B hk hi, hf.same _ _ (by omega) hl rfl, hf.same _ _ (Nat.le_refl _) hd rfl⟩)
      ?_ ⟨⟨hx1.size, hI1⟩, hL1, hK1⟩).mono ?_)
    · rintro pre x W ⟨⟨hz, hi⟩, hl, hk⟩ hnx
      have hlt : w.heap.size + 1 < W.heap.size := (Array.getElem?_eq_some_iff.1 hl).1
      have hy := run_yield (P := P) (args := encs x) hl (by rw [hrec]; exact hps x)
      rw [hrec] at hy
      refine ⟨fn, _, assign, body, hy, roundIn_of_wpIn trivial ?_⟩
      refine wpIn_mono (hround (w.heap.size + 1) pre x W hz hi hnx) ?_
      rintro e a1 Wa hp
      cases e with
      | normal =>
        obtain ⟨hkf, hbody⟩ := hp
        have hla := hkf.same _ _ (by omega) hl rfl
        have hka := hkf.same _ _ (Nat.le_refl _) hk rfl
        have hlta : w.heap.size + 1 < Wa.heap.size := (Array.getElem?_eq_some_iff.1 hla).1
        refine ⟨_, run_beginRound hla (by rw [hrec]), ?_⟩
        have hl2 : (Wa.putObj (w.heap.size + 1) (.loop { rec .ready none with state := .busy })).heap[w.heap.size + 1]? = some (.loop { rec .ready none with state := .busy }) := World.putObj_heap_same hlta
        have hk2 : (Wa.putObj (w.heap.size + 1) (.loop { rec .ready none with state := .busy })).heap[w.heap.size]? = some (.deferred (some [])) := (World.putObj_heap_other (by omega)).trans hka
        refine wpIn_mono (hbody _ (Kc.of_put _ hla rfl (by omega)) (by simp)) ?_
        generalize Wa.putObj (w.heap.size + 1) (.loop { rec .ready none with state := .busy }) = W2 at *
        have fin : ∀ (jump : Option Code) (W3 : World), KeepsFrom w.heap.size W2 W3 →
            (Instr.endRound (w.heap.size + 1) jump).run P W3 = .ok (.bool jump.isNone) (W3.putObj (w.heap.size + 1) (.loop (rec (if jump.isNone then .ready else .done) jump))) ∧
            W3.heap[w.heap.size + 1]? = some (.loop { rec .ready none with state := .busy }) ∧ w.heap.size ≤ W3.heap.size ∧
            (W3.putObj (w.heap.size + 1) (.loop (rec (if jump.isNone then .ready else .done) jump))).heap[w.heap.size + 1]? = some (.loop (rec (if jump.isNone then .ready else .done) jump)) ∧
            (W3.putObj (w.heap.size + 1) (.loop (rec (if jump.isNone then .ready else .done) jump))).heap[w.heap.size]? = some (.deferred (some [])) := fun jump W3 hk3 => by
          have hl3 := hk3.same _ _ (by omega) hl2 rfl
          have hz3 := (Array.getElem?_eq_some_iff.1 hl3).1
          have := run_endRound (P := P) jump hl3
          rw [hrec] at this ⊢
          exact ⟨this, by rw [hrec] at hl3; exact hl3, by omega, World.putObj_heap_same hz3, (World.putObj_heap_other (by omega)).trans (hk3.same _ _ (Nat.le_refl _) hk2 rfl)⟩
        rintro e a3 W3 hp
        cases e with
        | normal =>
          obtain ⟨hk3, hkc, hi3⟩ := hp
          obtain ⟨hr, hl3, hz3, hl4, hk4⟩ := fin none W3 hk3
          exact ⟨_, _, hr, .inl ⟨rfl, ⟨⟨by simpa using hz3, hI _ _ _ (Kc.of_put _ hl3 rfl (by omega)) hi3⟩, hl4, hk4⟩, hkc.trans (Kc.of_put _ hl3 rfl (by omega))⟩⟩
        | ret =>
          obtain ⟨hk3, hi3⟩ := hp
          obtain ⟨hr, hl3, hz3, hl4, hk4⟩ := fin (some .ret) W3 hk3
          exact ⟨_, _, hr, .inr ⟨rfl, .ret, hIx _ _ _ _ (Kc.of_put _ hl3 rfl (by omega)) hi3, hl4, hk4⟩⟩
        | exit id =>
          obtain ⟨hk3, hi3⟩ := hp
          obtain ⟨hr, hl3, hz3, hl4, hk4⟩ := fin (some (.exit id)) W3 hk3
          exact ⟨_, _, hr, .inr ⟨rfl, .exit id, hIx _ _ _ _ (Kc.of_put _ hl3 rfl (by omega)) hi3, hl4, hk4⟩⟩
        | goto t =>
          obtain ⟨hk3, hi3⟩ := hp
          obtain ⟨hr, hl3, hz3, hl4, hk4⟩ := fin (some (.goto t)) W3 hk3
          exact ⟨_, _, hr, .inr ⟨rfl, .goto t, hIx _ _ _ _ (Kc.of_put _ hl3 rfl (by omega)) hi3, hl4, hk4⟩⟩
        | panic ch => exact hp.elim
        | outgrown => exact hp.elim
      | exit id => exact hp.elim
      | goto t => exact hp.elim
      | ret => exact hp.elim
      | panic ch => exact hp.elim
      | outgrown => exact hp.elim
    · rintro e W2 ⟨⟨v, rfl⟩, (⟨xs, hSx, ⟨_, hi⟩, hl, hk⟩ | ⟨pre, hSx, c, hi, hl, hk⟩)⟩
      · refine ⟨none, _, by have := run_endLoop (P := P) hl (by rw [hrec]; simp); rw [hrec] at this; exact this, ?_⟩
        exact hdone _ xs _ (Nat.le_refl _) (hS _ _ _ (Kc.of_put _ hl rfl (by omega)) hSx) (hI _ _ _ (Kc.of_put _ hl rfl (by omega)) hi) ((World.putObj_heap_other (by omega)).trans hk)
      · refine ⟨some c, _, by have := run_endLoop (P := P) hl (by rw [hrec]; simp); rw [hrec] at this; exact this, ?_⟩
        exact (wpIn_wide (n := 3)).2 (hstop _ c pre _ (Nat.le_refl _) (hSp _ _ _ (Kc.of_put _ hl rfl (by omega)) hSx) (hIx _ _ _ _ (Kc.of_put _ hl rfl (by omega)) hi) ((World.putObj_heap_other (by omega)).trans hk))
theorem blk_ne {w : World} {a b : Nat} {cs ds : Array Value} {t u : TypeId} (h : Blk w a (.cells cs t)) (k : Blk w b (.cells ds u)) (hn : t ≠ u) : a ≠ b := fun e => by
  subst e
  have h' : w.heap[a]? = some (.cells cs t) := h
  have k' : w.heap[a]? = some (.cells ds u) := k
  rw [h'] at k'
  cases k'
  exact hn rfl
end Dsd
/- In a round's frame, and at the wide fence, an operation that is no defer statement is carried out as everywhere: what is proved of it plainly holds there too. Over any program. -/
namespace Dsd
open Go Go.RowKit
/-- A fence that lets all in: the wide one, or the wide one in a round. -/
def Wide (F : Fence) : Prop := F = Fence.wide ∨ ∃ l, F = Fence.wide.inRound l
theorem Wide.calls {F : Fence} (h : Wide F) {n : Nat} {P : Program} {f : FuncId} {args : Array Value} {w : World} {R : Ending → World → Prop} (hc : Calls P f args w R) : CallsIn F n P f args w R := by
  rcases h with rfl | ⟨l, rfl⟩
  · exact callsIn_wide.2 hc
  · exact CallsIn.inRound l (callsIn_wide.2 hc)
theorem Wide.rows {F : Fence} (h : Wide F) {n : Nat} {P : Program} {row : String} {args : Array Value} {w : World} {R : Value → World → Prop} (hc : Rows P row args w R) : RowsIn F n P row args w R := by
  rcases h with rfl | ⟨l, rfl⟩
  · exact fun c cs _ => let ⟨v, w', r, s⟩ := hc c cs; ⟨v, w', r, stepsIn_wide.2 s⟩
  · exact fun c cs _ => let ⟨v, w', r, s⟩ := hc c cs; ⟨v, w', r, stepsIn_wide.2 s⟩
theorem Wide.fn {F : Fence} (h : Wide F) (f : FuncId) : F.fn f := by
  rcases h with rfl | ⟨l, rfl⟩ <;> trivial
theorem Wide.depth {F : Fence} (h : Wide F) : F.depth = none := by
  rcases h with rfl | ⟨l, rfl⟩ <;> rfl
theorem op_in {F : Fence} (hF : Wide F) {n : Nat} {P : Program} {o : Oper} {a : Act} {w : World} {K : Act → World → Prop} {Q : Exit → Act → World → Prop} (hnd : ∀ c, o.op ≠ .defer c) (h : o.wp P a w K Q) : o.wpIn F n P a w K Q := by
  refine ⟨fun f _ => hF.fn f, ?_⟩
  rw [Oper.semAt_eq _ _ _ hnd]
  unfold Oper.wp at h
  have hd := hF.depth
  generalize (execOp a.eval o).run P w = r at h ⊢
  cases r with
  | ok x w' =>
    cases x with
    | enter f args => exact ⟨fun hs => (by rw [hd] at hs; cases hs), hF.calls h⟩
    | row f args => exact ⟨fun hs => (by rw [hd] at hs; cases hs), hF.rows h⟩
    | value v => exact h
    | skip => exact h
    | defer d => exact h
    | _ => exact False.elim h
  | halt x w' =>
    cases x with
    | panic v => exact h
    | _ => exact False.elim h
def noDefer (o : Oper) : Bool := match o.op with
  | .defer _ => false
  | _ => true
theorem noDefer_spec {o : Oper} (h : noDefer o = true) : ∀ c, o.op ≠ .defer c := fun c e => by unfold noDefer at h; rw [e] at h; cases h
theorem wpOpIn_of {F : Fence} (hF : Wide F) {n : Nat} {P : Program} {ops : Array Oper} {Q : Exit → Act → World → Prop} (hQ : ¬ LetsOut Q) (hnd : ∀ (i : Nat) (o : Oper), ops[i]? = some o → noDefer o = true) {i : Nat} {K K' : Act → World → Prop} {a : Act} {w : World} (hK : ∀ a w, K a w → K' a w)
    (h : wpOp P ops Q i K a w) : wpOpIn F n P ops Q i K' a w := by
  unfold wpOp at h
  unfold wpOpIn
  cases ho : ops[i]? with
  | none => simp only [ho] at h ⊢; exact hK _ _ h
  | some o =>
    simp only [ho] at h ⊢
    split
    · rename_i hw
      rw [if_pos hw] at h
      rcases h with h | h
      · exact op_in hF (noDefer_spec (hnd i o ho)) (Oper.wp_mono hK h)
      · exact absurd h.2 hQ
    · rename_i hw
      rw [if_neg hw] at h
      exact ⟨fun f _ => hF.fn f, hK _ _ h⟩
theorem wpAnyIn_of {F : Fence} (hF : Wide F) {n : Nat} {P : Program} {md : Region.Mode} {ops : Array Oper} {Q : Exit → Act → World → Prop} (hQ : ¬ LetsOut Q) (hnd : ∀ (i : Nat) (o : Oper), ops[i]? = some o → noDefer o = true) :
    ∀ (fuel : Nat) (listed : Array Bool) (a : Act) (w : World), wpAny P md ops Q fuel listed a w → wpAnyIn F n P md ops Q fuel listed a w
  | 0, _, _, _, h => h
  | fuel + 1, listed, a, w, h => ⟨h.1, fun i hi => wpOpIn_of hF hQ hnd (fun a w => wpAnyIn_of hF hQ hnd fuel _ a w) (h.2 i hi)⟩
theorem wpListIn_of {F : Fence} (hF : Wide F) {n : Nat} {P : Program} {ops : Array Oper} {Q : Exit → Act → World → Prop} (hQ : ¬ LetsOut Q) : ∀ (l : List Oper) (a : Act) (w : World), l.all noDefer = true → wpList P ops Q l a w → wpListIn F n P ops Q l a w
  | [], _, _, _, h => h
  | o :: l, a, w, hnd, h => by
    rw [List.all_cons, Bool.and_eq_true] at hnd
    unfold wpList at h
    unfold wpListIn
    split
    · rename_i hw
      rw [if_pos hw] at h
      rcases h with h | h
      · exact op_in hF (noDefer_spec hnd.1) (Oper.wp_mono (fun a w h => wpListIn_of hF hQ l a w hnd.2 h) h)
      · exact absurd h.2 hQ
    · rename_i hw
      rw [if_neg hw] at h
      exact ⟨fun f _ => hF.fn f, wpListIn_of hF hQ l _ _ hnd.2 h⟩
/-- A region in a round's frame, out of its plain walk. -/
theorem region_in {F : Fence} (hF : Wide F) {n : Nat} {P : Program} {id : Nat} {l : List Oper} {Q : Exit → Act → World → Prop} {a : Act} {w : World} (hQ : ¬ LetsOut Q) (hnd : l.all noDefer = true) (h : wpList P l.toArray Q l a w) : (Code.region id l.toArray false).wpIn F n P Q a w :=
  wpIn_region_lit (wpListIn_of hF hQ l a w hnd h)
theorem region_draw_in {F : Fence} (hF : Wide F) {n : Nat} {P : Program} {id : Nat} {l : List Oper} {Q : Exit → Act → World → Prop} {a : Act} {w : World} (hm : P.follows .mixedOrders = true) (hQ : ¬ LetsOut Q) (hnd : l.all noDefer = true)
    (h : wpAny P .any l.toArray Q l.toArray.size (Array.replicate l.toArray.size false) a w.drew) : (Code.region id l.toArray true).wpIn F n P Q a w :=
  wpIn_region_any hm (wpAnyIn_of hF hQ (fun i o ho => by
    rw [List.all_eq_true] at hnd
    exact hnd o (List.mem_of_getElem? (by simpa using ho))) _ _ _ _ h)
/-- One operation more at the wide fence. -/
theorem wpListIn_cons {F : Fence} (hF : Wide F) {n : Nat} {P : Program} {ops : Array Oper} {Q : Exit → Act → World → Prop} {o : Oper} {rest : List Oper} {a : Act} {w : World} (hg : o.guard = none) (hnd : noDefer o = true)
    (h : ∀ K : Act → World → Prop, (∀ a w, wpListIn F n P ops Q rest a w → K a w) → o.wp P a w K Q) : wpListIn F n P ops Q (o :: rest) a w := by
  unfold wpListIn
  rw [if_pos (by simp [Region.wanted, hg])]
  exact op_in hF (noDefer_spec hnd) (h _ fun _ _ h => h)
/-- A call of yield. -/
theorem wpListIn_yield {n : Nat} {P : Program} {ops : Array Oper} {Q : Exit → Act → World → Prop} {dst : Option Tmp} {ty : TypeId} {pos : String} {after : Array Edge} {f : Operand} {xs : Array Operand} {ts : Array TypeId} {rest : List Oper} {a : Act} {w : World} {l : Nat} {args : Array Value} {R : Ending → World → Prop}
    (hf : a.eval f = .func (.yield l) #[] #[]) (hargs : xs.map a.eval = args) (hy : YieldAt Fence.wide n P l args w R)
    (hrun : ∀ W, (execOp a.eval ⟨dst, .call { callee := .value f, args := xs, argTypes := ts }, ty, pos, after, none⟩).run P W = (Instr.yield l args).run P W)
    (h : ∀ e w', R e w' → ∃ v, e = .returned v ∧ wpListIn Fence.wide (n + 1) P ops Q rest (a.put dst v) w') :
    wpListIn Fence.wide (n + 1) P ops Q (⟨dst, .call { callee := .value f, args := xs, argTypes := ts }, ty, pos, after, none⟩ :: rest) a w := by
  obtain ⟨fn, tmps, assign, body, hy1, hR⟩ := hy
  unfold wpListIn
  rw [if_pos (by simp [Region.wanted])]
  refine ⟨fun f _ => trivial, ?_⟩
  rw [Oper.semAt_eq _ _ _ (by intro c hc; cases hc), hrun, hy1]
  refine ⟨fun hs => (by cases hs), hR.mono fun e w' hr => ?_⟩
  obtain ⟨v, rfl, hv⟩ := h e w' hr
  exact hv

/-- A function that holds a range over a function: its contract from its body. -/
theorem calls_of_wp_marks {P : Program} {f : FuncId} {fn : Func} {c : Code} {args : Array Value} {w : World} {R : Ending → World → Prop} (hf : P.funcs[f]? = some fn) (hb : fn.body = some c)
    (h : c.wp P (bodyPostM Fence.wide 3 P fn R) { tmps := args ++ Array.replicate (fn.ntmps - args.size) undef, defers := [] } w) : Calls P f args w R :=
  callsIn_wide.1 (callsIn_of_wp_marks hf hb trivial ((wpIn_wide (n := 3)).2 h))
theorem postM_ret {P : Program} {fn : Func} {R : Ending → World → Prop} {tmps : Array Value} {v : Value} {w : World} (hr : (results fn tmps).run P w = .ok v w) (h : R (.returned v) w) : bodyPostM Fence.wide 3 P fn R .ret ⟨tmps, []⟩ w := ⟨v, hr, h⟩
/-- .. behind the loop: the mark is taken up. -/
theorem postM_mark {P : Program} {fn : Func} {R : Ending → World → Prop} {tmps : Array Value} {v : Value} {w : World} {D : Nat} (hD : w.heap[D]? = some (.deferred (some []))) (hr : (results fn tmps).run P (w.putObj D (.deferred none)) = .ok v (w.putObj D (.deferred none))) (h : R (.returned v) (w.putObj D (.deferred none))) :
    bodyPostM Fence.wide 3 P fn R .ret ⟨tmps, [{ target := .collected D, args := #[] }]⟩ w :=
  ⟨by simp, .inl ⟨_, _, rfl, run_takeDeferred hD, ⟨v, hr, h⟩⟩⟩
end Dsd
/- The walk of a drawn region whose facts stand as the world grows (Mono), in a round's frame. Over any program. -/
namespace Dsd
open Go Go.RowKit
section
variable {P : Program} {Q : Exit → Act → World → Prop} {w0 : World} {ds : List Deferred}
theorem any_monoT {a : Act} {w : World} (init tail : List Oper) (he : Ext w0 w) (hB : orderB .any (init ++ tail).toArray a.tmps.size = true) (hF : forcedB .any (init ++ tail) init.length = true)
    (h : wpMonoT P (init ++ tail).toArray Q w0 a.tmps.size a.defers tail init (fun t => Is (a.tmps.getD t undef))) :
    wpAny P .any (init ++ tail).toArray Q (init ++ tail).toArray.size (Array.replicate (init ++ tail).toArray.size false) a w.drew := by
  obtain ⟨S, F, h0, h1, h2, h3, h4⟩ := wpMonoT_steps tail init 0 _ (fun j hj => by simp [List.getElem?_append_left hj]) h
  refine wpAny_mono_tail (md := .any) init tail hF h1 (fun t => by rw [h0]; exact Is.stable _) hB (fun i o => h3 i o (Nat.zero_le _)) (fun i o hi => h2 i o (Nat.zero_le _) (by omega)) (fun a w => by simpa using h4 a w) _ _ _ _ (by simp) ?_ ?_ ?_
  · have := List.countP_le_length (p := fun i => !(Array.replicate (init ++ tail).toArray.size false).getD i false) (l := List.range init.length)
    simp at this ⊢
    omega
  · intro i _
    simp [Array.getElem?_replicate]
    split <;> simp
  · refine ⟨he.trans (Ext.drew w), rfl, rfl, ?_, ?_, ?_, ?_⟩
    · intro j o d hj hd hl
      simp [Array.getElem?_replicate] at hl
      split at hl <;> simp at hl
    · intro j o d hj hd hl
      rw [h0]; rfl
    · intro d _
      rw [h0]; rfl
    · intro j o e hj hl
      simp [Array.getElem?_replicate] at hl
      split at hl <;> simp at hl
theorem region_mk_in {F : Fence} {n : Nat} {id : Nat} {w : World} (hW : Wide F) (hQ : ¬ LetsOut Q) (k : Nat) {l : List Oper} {vs : List Value} (hnd : l.all noDefer = true) (he : Ext w0 w) (hm : P.follows .mixedOrders = true) (hB : orderB .any l.toArray vs.length = true) (hF : forcedB .any l (l.take k).length = true)
    (h : wpML P l.toArray Q w0 (l.drop k) ds (l.take k) (vs.map Is)) : (Code.region id l.toArray true).wpIn F n P Q ⟨vs.toArray, ds⟩ w := by
  refine region_draw_in hW hm hQ hnd ?_
  have hl := take_drop_eq k l
  generalize l.take k = init at *
  generalize l.drop k = tail at *
  subst hl
  refine any_monoT init tail he (by simpa using hB) hF ?_
  have hdst : ∀ o ∈ init, ∀ d, o.dst = some d → d < (vs.map Is).length := by
    intro o ho d hd
    obtain ⟨k, hk⟩ := List.getElem?_of_mem (show o ∈ init ++ tail by simp [ho])
    have := (orderB_spec (ops := (init ++ tail).toArray) hB (i := k) (j := k) (by simpa using hk) (by simpa using hk) hd).1
    simpa using this
  have h1 := wpMono_of_list init (vs.map Is) hdst h
  have e : factAt (vs.map Is) = fun t => Is ((vs.toArray).getD t undef) := by
    funext t
    simp only [factAt, List.getD, List.getElem?_map]
    by_cases ht : t < vs.length
    · simp [ht]
    · simp [List.getElem?_eq_none (Nat.le_of_not_lt ht)]
  rw [e] at h1
  simpa using h1
end
end Dsd
/- The walk of package index's walk, with any yield. -/
namespace Go.Proofs.YtolmoknjmdmpgaaGreat
open Go.RowKit Dsd
attribute [local go_sem] Oper.semAt_some
def encI (x : Int) : Array Value := #[.int .i64 x]
/-- What the walk may turn beside the yields: the error's variable. -/
def tWk (eb : Nat) : Nat → TypeId → Prop := fun b t => b = eb ∧ t = 31
/-- The types that the walk reads. -/
def tRdI (t : TypeId) : Prop := t = 70 ∨ t = 53 ∨ t = 75 ∨ t = 31
/-- What is known of the yields. -/
structure YLaw (l n0 eb B : Nat) (J Jx : List Int → World → Prop) (tB : Nat → TypeId → Prop) (R : List Int) : Prop where
  ty : ∀ b t, tRdI t → ¬ tB b t
  j : ∀ pre A A', Kc n0 (tWk eb) A A' → KeepsFrom B A A' → J pre A → J pre A'
  y : ∀ pre x W1, J pre W1 → pre ++ [x] <+: R → YieldAt Fence.wide 2 Tryz.prog l (encI x) W1 fun e W' => (e = .returned (.bool true) ∧ J (pre ++ [x]) W' ∧ Kc n0 tB W1 W') ∨ (e = .returned (.bool false) ∧ Jx (pre ++ [x]) W')
theorem YLaw.ext {l n0 eb B : Nat} {J Jx : List Int → World → Prop} {tB : Nat → TypeId → Prop} {R : List Int} (Y : YLaw l n0 eb B J Jx tB R) {pre : List Int} {A A' : World} (e : Ext A A') (hn : n0 ≤ A.heap.size) (h : J pre A) : J pre A' :=
  Y.j pre A A' (Kc.of_ext e hn) (KeepsFrom.of_ext e) h
/-- What the walk hands back. -/
def WkOut (n0 eb : Nat) (J Jx : List Int → World → Prop) (tB : Nat → TypeId → Prop) (R pre : List Int) (r : List Int × Int) (W : World) (e : Ending) (W' : World) : Prop :=
  (e = .returned (.bool true) ∧ r.2 = 0 ∧ Blk W' eb (.cells #[.int .i64 0] 31) ∧ J (pre ++ r.1) W' ∧ Kc n0 tB W W') ∨
  (e = .returned (.bool false) ∧ ((r.2 ≠ 0 ∧ Blk W' eb (.cells #[.int .i64 r.2] 31) ∧ J (pre ++ r.1) W') ∨ ∃ pre', pre' <+: R ∧ Jx pre' W'))
theorem own_kc {n0 : Nat} {tc : Nat → TypeId → Prop} {w w' : World} {base : Nat} {e : TypeId} {size : Nat} {v : Value} {n : Nat} {xs : List Value} (h : w.ownsRow base e size v n xs) (k : Kc n0 tc w w') (ht : ∀ b, ¬ tc b e) : w'.ownsRow base e size v n xs := by
  refine ⟨h.1, ?_⟩
  rcases h.2 with hn | ⟨b, cap, cur, rfl, hb, hg, rest⟩
  · exact .inl hn
  · exact .inr ⟨b, cap, cur, rfl, hb, k.blk hg (ht b), rest⟩
theorem entSize : (Tryz.prog.info? 75).map (·.size) = some 2 := by kernel_rfl
theorem walkGo_step {f : Int → List Int × Int} {E : List Ent} {k : Nat} (hk : k < E.length) : walkGo f (E.drop k) = if (f (entAt E k).2).2 ≠ 0 then f (entAt E k).2 else ((f (entAt E k).2).1 ++ (walkGo f (E.drop (k + 1))).1, (walkGo f (E.drop (k + 1))).2) := by
  have e : E.drop k = entAt E k :: E.drop (k + 1) := by
    rw [List.drop_eq_getElem_cons hk]
    simp [entAt, List.getD, hk]
  rw [e, walkGo]
set_option maxRecDepth 100000 in
set_option maxHeartbeats 4000000 in
theorem walk_any (p : Option Addr) (cap n : Nat) (m : List (List UInt8)) (h : Hd) (d : DS) (w0 : World) (hs : Strs w0 p m) (hn : m.length = n) (hm : Small m) (l eb B : Nat) (heb : w0.heap.size ≤ eb) (J Jx : List Int → World → Prop) (tB : Nat → TypeId → Prop) (R : List Int) (Y : YLaw l w0.heap.size eb B J Jx tB R) :
    ∀ (lv : Nat), lv ≤ 6 → ∀ (page : Int) (pre : List Int) (W : World), Ext w0 W → Blk W eb (.cells #[.int .i64 0] 31) → J pre W → pre ++ (walkD m d lv page).1 <+: R →
    Calls Tryz.prog 55 #[.agg (trC (.slice p n cap) h d), .int .i64 page, .int .i64 ((lv : Nat) : Int), .pointer (some ⟨eb, 0, none⟩), .func (.yield l) #[] #[]] W (WkOut w0.heap.size eb J Jx tB R pre (walkD m d lv page) W) := by
  intro lv
  induction lv with
  | zero =>
    intro _ page pre W hx he hj hpx
    have hx1 := Ext.alloc W (.cells (trC (.slice p n cap) h d) 70)
    have hYx := Y.y pre page _ (Y.ext hx1 hx.size hj) hpx
    have He1 := Lib.hid (hx1.blk _ _ he)
    have Hx1 := Lib.hid (Kc.of_ext (tc := tB) hx1 hx.size)
    have HY := Lib.hid Y
    have Hpx := Lib.hid hpx
    obtain ⟨fn, tmps, assign, body, hy, hR⟩ := hYx
    dsimp only [encI] at hy
    show Calls _ _ _ _ (WkOut w0.heap.size eb J Jx tB R pre ([page], 0) W)
    have HT : Hid (∀ e W', e = .returned (.bool true) → J (pre ++ [page]) W' → Kc w0.heap.size tB (W.alloc (.cells (trC (.slice p n cap) h d) 70)) W' → WkOut w0.heap.size eb J Jx tB R pre ([page], 0) W e W') := Lib.hid (fun e W' h1 h2 h3 => .inl ⟨h1, rfl, h3.blk He1.out (HY.out.ty _ _ (.inr (.inr (.inr rfl)))), h2, Hx1.out.trans h3⟩)
    have HF : Hid (∀ e W', e = .returned (.bool false) → Jx (pre ++ [page]) W' → WkOut w0.heap.size eb J Jx tB R pre ([page], 0) W e W') := Lib.hid (fun e W' h1 h2 => .inr ⟨h1, .inr ⟨_, Hpx.out, h2⟩⟩)
    clear hx he hj hpx hx1 hs
    generalize WkOut w0.heap.size eb J Jx tB R pre ([page], 0) W = OUT at *
    go_enter Tryz.func55, Tryz.ntmps55
    go_upto_region 2 with (fail)
    refine (wpIn_wide (n := 3)).1 ?_
    gi_wp2
    refine hR.mono ?_
    rintro e W' (⟨rfl, hj', hk'⟩ | ⟨rfl, hjx'⟩)
    · have HO := Lib.hid (HT.out _ W' rfl hj' hk')
      clear hj' hk' hy hR
      gi_wp2
      go_wp2_with fail
      exact HO.out
    · have HO := Lib.hid (HF.out _ W' rfl hjx')
      clear hjx' hy hR
      gi_wp2
      go_wp2_with fail
      exact HO.out
  | succ lv ih =>
    intro hl6 page pre W hx he hj hpx
    have hx1 := Ext.alloc W (.cells (trC (.slice p n cap) h d) 70)
    have hb1 := Blk.new W (.cells (trC (.slice p n cap) h d) 70)
    have hL := fun W' (e : Ext W W') => load22_any p cap n m h d page ((lv + 1 : Nat) : Int) W' (hs.ext (hx.trans e)) hn hm
    obtain ⟨T, hT⟩ : ∃ T, T = walkD m d (lv + 1) page := ⟨_, rfl⟩
    rw [← hT] at hpx ⊢
    rw [walkD] at hT
    have HIh := Lib.hid (fun pg pr W' => ih (by omega) pg pr W')
    have HY := Lib.hid Y
    have HQ := Lib.hid (And.intro hx (And.intro he (And.intro hj hpx)))
    obtain ⟨n1, hn1⟩ : ∃ n1, n1 = lv + 1 := ⟨_, rfl⟩
    rw [← hn1] at hL hT ⊢
    have hne : (((n1 : Nat) : Int) == 0) = false := by simp; omega
    have hnz : ¬ n1 = 0 := by omega
    have hw1 : IntKind.i64.wrap (((n1 : Nat) : Int) - 1) = ((lv : Nat) : Int) := by rw [IntWalk.i64_in _ (by omega)]; omega
    clear hn1 ih hx he hj hpx hs
    unfold Load22 at hL
    have HOut : Hid (∀ e W', WkOut w0.heap.size eb J Jx tB R pre T W e W' → WkOut w0.heap.size eb J Jx tB R pre T W e W') := Lib.hid (fun _ _ h => h)
    generalize hOU : WkOut w0.heap.size eb J Jx tB R pre T W = OUT at *
    by_cases hE : (loadD m d page ((n1 : Nat) : Int)).2 = 0
    · have hsp := (load_spec hE).1
      rw [if_neg (by rw [hE]; simp)] at hT
      have HL : Hid (∀ W', Ext W W' → Calls Tryz.prog 51 #[.agg (trC (.slice p n cap) h d), .int .i64 page, .int .i64 ((n1 : Nat) : Int)] W' fun e w' => Ext W' w' ∧ ∃ q c, e = .returned (.tuple #[.agg #[.int .i64 (loadD m d page ((n1 : Nat) : Int)).1.level, .int .i64 (loadD m d page ((n1 : Nat) : Int)).1.next, .slice q (loadD m d page ((n1 : Nat) : Int)).1.ents.length c], .int .i64 0]) ∧ w'.ownsRow 0 75 2 (.slice q (loadD m d page ((n1 : Nat) : Int)).1.ents.length c) (loadD m d page ((n1 : Nat) : Int)).1.ents.length (entCells (loadD m d page ((n1 : Nat) : Int)).1.ents)) := Lib.hid (fun W' e => by
        have := hL W' e
        rw [hE] at this
        exact this.mono (fun e' w' ⟨a1, q, c, a2, a3⟩ => ⟨a1, q, c, a2, own_le a3 (Nat.zero_le _)⟩))
      have hl120 := hsp.l2
      have HT := Lib.hid hT
      have HOU := Lib.hid hOU
      clear hE hsp hL hT HOut hOU
      generalize (loadD m d page ((n1 : Nat) : Int)).1 = nd at *
      go_enter Tryz.func55, Tryz.ntmps55
      go_upto_region 1 with (fail)
      refine wp_name (fun w1 => Ext W w1 ∧ Blk w1 W.heap.size (.cells (trC (.slice p n cap) h d) 70)) ⟨hx1, hb1⟩ ?_
      clear hx1 hb1
      rintro w1 ⟨hx1, hb1⟩
      go_upto_region 7 with (first
        | ((with_reducible (show wpList _ _ _ (⟨some 21, _, _, _, _, _⟩ :: _) _ _)); refine wpList_row (o := ⟨some 21, _, _, _, _, _⟩) rfl 70 (.tmp 5) rfl _ rfl _ _ _ hb1 trDesc rfl trSize ?_)
        | (go_at_call 51; refine (HL.out _ hx1).mono ?_; rintro e w2 ⟨he2, q1, c1, rfl, ho2⟩)
        | (refine wpList_put rfl 53 (.tmp 11) (.tmp 25) rfl _ #[.int .i64 nd.level, .int .i64 nd.next, .slice q1 nd.ents.length c1] rfl rfl _ _ (Blk.new w2 _) ndSize rfl (by simp [Value.oneCell']) ?_; intro w3 hn3 hc3; have hx3 := hc3.ext (Ext.alloc w2 _) (Nat.le_refl _)))
      have hX3 := (hx1.trans he2).trans hx3
      have c52 : w3.cell? ⟨w2.heap.size, 2, none⟩ = some (.slice q1 nd.ents.length c1) := Blk.val hn3 2 _ rfl
      have l52 := Blk.lt hn3
      have HR3 := Lib.hid (And.intro hX3 (And.intro ((hx3.blk _ _ (he2.blk _ _ hb1))) (own_chgT (own_ext ho2 (Ext.alloc w2 _)) (by decide) (Blk.new w2 _) hc3)))
      clear hx1 hb1 he2 ho2 hn3 hc3 hx3 hX3
      go_upto_region 8 with (fail)
      have hK3 : Kc w0.heap.size tB W w3 := Kc.of_ext HR3.out.1 HQ.out.1.size
      have hj3 := HY.out.ext HR3.out.1 HQ.out.1.size HQ.out.2.2.1
      go_loopw [35] (fun i wr => ∃ (k : Nat) (acc : List Int), k ≤ nd.ents.length ∧ i = .int .i64 k ∧ acc ++ (walkGo (walkD m d lv) (nd.ents.drop k)).1 = T.1 ∧ (walkGo (walkD m d lv) (nd.ents.drop k)).2 = T.2 ∧ Kc w0.heap.size tB W wr ∧ Blk wr eb (.cells #[.int .i64 0] 31) ∧ Blk wr W.heap.size (.cells (trC (.slice p n cap) h d) 70) ∧ wr.ownsRow 0 75 2 (.slice q1 nd.ents.length c1) nd.ents.length (entCells nd.ents) ∧ J (pre ++ acc) wr) (fun i _ => nd.ents.length - (intOf i).toNat)
      case atStart => exact ⟨0, [], Nat.zero_le _, rfl, by rw [HT.out]; rfl, by rw [HT.out]; rfl, hK3, HR3.out.1.blk _ _ HQ.out.2.1, HR3.out.2.1, HR3.out.2.2, by simpa using hj3⟩
      case round =>
        clear hK3 hj3 c52 l52
        obtain ⟨k, acc, hk, rfl, hA, hB, hK, he, hb, ho, hj⟩ := hrel
        by_cases hlt : k < nd.ents.length
        · have hltI : (k : Int) < nd.ents.length := by omega
          obtain ⟨g, rfl, hgl, hc0, hc1⟩ : ∃ g, q1 = some ⟨g, 0, none⟩ ∧ g < wr.heap.size ∧ wr.cell? ⟨g, k * 2, none⟩ = some (.string ⟨(entAt nd.ents k).1.toArray⟩) ∧ wr.cell? ⟨g, k * 2 + 1, none⟩ = some (.int .i64 (entAt nd.ents k).2) := by
            obtain ⟨g, off, hq, hgl, hcc⟩ := (own_cellsND ho).at k hlt
            obtain ⟨g', _, hq', _⟩ := own_parts ho (by omega)
            rw [hq'] at hq
            simp only [Option.some.injEq, Addr.mk.injEq, and_true] at hq
            obtain ⟨rfl, rfl⟩ := hq
            obtain ⟨a0, a1⟩ := hcc k hlt
            rw [Nat.zero_add] at a0 a1
            exact ⟨g', hq', hgl, a0, a1⟩
          rw [walkGo_step hlt] at hA hB
          have hpx : (pre ++ acc) ++ (walkD m d lv (entAt nd.ents k).2).1 <+: R := by
            refine List.IsPrefix.trans ?_ HQ.out.2.2.2
            rw [List.append_assoc, ← hA]
            refine (List.prefix_append_right_inj _).2 ((List.prefix_append_right_inj _).2 ?_)
            split
            · exact List.prefix_refl _
            · exact List.prefix_append _ _
          have HI : Hid (∀ W', Ext wr W' → Calls Tryz.prog 55 #[.agg (trC (.slice p n cap) h d), .int .i64 (entAt nd.ents k).2, .int .i64 ((lv : Nat) : Int), .pointer (some ⟨eb, 0, none⟩), .func (.yield l) #[] #[]] W' (WkOut w0.heap.size eb J Jx tB R (pre ++ acc) (walkD m d lv (entAt nd.ents k).2) W')) := Lib.hid (fun W' e => by
            have hxw : Ext w0 wr := Ext.trans' HQ.out.1 hK.below
            exact HIh.out _ (pre ++ acc) W' (hxw.trans e) (e.blk _ _ he) (HY.out.ext e hxw.size hj) hpx)
          have HS := Lib.hid (And.intro hK (And.intro he (And.intro hb ho)))
          have HA := Lib.hid hA
          have HB := Lib.hid hB
          have hlb := Blk.lt hb
          clear hA hB hK he ho hj hpx
          generalize (entAt nd.ents k).1 = s at *
          generalize (entAt nd.ents k).2 = pgx at *
          generalize walkD m d lv pgx = r at *
          go_upto_region 10 with (refine wpList_put rfl 75 (.tmp 14) (.tmp 38) rfl _ #[.string ⟨s.toArray⟩, .int .i64 pgx] rfl rfl _ _ (Blk.new wr _) entSize rfl (by simp [Value.oneCell']) ?_; intro w4 hn4 hc4)
          have hx4 := hc4.ext (Ext.alloc wr _) (Nat.le_refl _)
          have HI4 := HI.out w4 hx4
          unfold WkOut at HI4
          have HI4 := Lib.hid HI4
          have hb4 := hx4.blk _ _ HS.out.2.2.1
          have cx : w4.cell? ⟨wr.heap.size, 1, none⟩ = some (.int .i64 pgx) := Blk.val hn4 1 _ rfl
          have lx := Blk.lt hn4
          have hK4 : Kc w0.heap.size tB wr w4 := Kc.of_ext hx4 (Ext.trans' HQ.out.1 HS.out.1.below).size
          have HK4 := Lib.hid (HS.out.1.trans hK4)
          have Ho4 := Lib.hid (own_ext HS.out.2.2.2 hx4)
          have Hb4 := Lib.hid hb4
          clear hc4 hx4 hK4 hn4 hgl hc0 hc1 hlb HI
          go_wp2_with (first
            | ((with_reducible (show wpList _ _ _ (⟨some 39, _, _, _, _, _⟩ :: _) _ _)); refine wpList_row (o := ⟨some 39, _, _, _, _, _⟩) rfl 70 (.tmp 5) rfl _ rfl _ _ _ Hb4.out trDesc rfl trSize ?_)
            | (go_at_call 55; refine HI4.out.mono ?_; rintro e W' (⟨rfl, h1, h2, h3, h4⟩ | ⟨rfl, h5⟩)))
          · have e1 : acc ++ r.1 ++ (walkGo (walkD m d lv) (nd.ents.drop (k + 1))).1 = T.1 := by
              have := HA.out
              rw [if_neg (by rw [h1]; simp)] at this
              rw [List.append_assoc]; exact this
            have e2 : (walkGo (walkD m d lv) (nd.ents.drop (k + 1))).2 = T.2 := by
              have := HB.out
              rw [if_neg (by rw [h1]; simp)] at this
              exact this
            refine ⟨⟨k + 1, acc ++ r.1, by omega, by go_num, e1, e2, HK4.out.trans h4, h2, h4.blk Hb4.out (HY.out.ty _ _ (.inl rfl)), own_kc Ho4.out h4 (fun b => HY.out.ty b _ (.inr (.inr (.inl rfl)))), by rw [← List.append_assoc]; exact h3⟩, ?_⟩
            simp [intOf]; omega
          · rw [← HOU.out]
            refine .inr ⟨rfl, ?_⟩
            rcases h5 with ⟨a1, a2, a3⟩ | h5
            · have e1 : acc ++ r.1 = T.1 := by
                have := HA.out
                rw [if_pos a1] at this
                exact this
              have e2 : r.2 = T.2 := by
                have := HB.out
                rw [if_pos a1] at this
                exact this
              exact .inl ⟨by rw [← e2]; exact a1, by rw [← e2]; exact a2, by rw [← e1, ← List.append_assoc]; exact a3⟩
            · exact .inr h5
        · have hltI : decide ((k : Int) < nd.ents.length) = false := decide_eq_false (by omega)
          have hltN : ¬ k < nd.ents.length := hlt
          rw [List.drop_eq_nil_of_le (by omega)] at hA hB
          have HO : Hid (OUT (.returned (.bool true)) wr) := Lib.hid (by
            rw [← HOU.out]
            refine .inl ⟨rfl, hB.symm, he, ?_, hK⟩
            rw [← hA]
            simpa [walkGo] using hj)
          clear hA hB hK he hb ho hj hlt
          go_wp2_with fail
          exact HO.out
    · have hei : ((loadD m d page ((n1 : Nat) : Int)).2 != 0) = true := by simpa using hE
      rw [if_pos hE] at hT
      have HO : Hid (∀ W', Ext W W' → Blk W' eb (.cells #[.int .i64 0] 31) → OUT (.returned (.bool false)) (W'.setCell ⟨eb, 0, none⟩ (.int .i64 (loadD m d page ((n1 : Nat) : Int)).2))) := Lib.hid (fun W' e hb => by
        rw [← hOU, hT]
        refine .inr ⟨rfl, .inl ⟨hE, Blk.setCell hb, ?_⟩⟩
        refine HY.out.j _ W' _ (Kc.of_chg Chg.setCell heb hb ⟨rfl, rfl⟩) (KeepsFrom.of_chg Chg.setCell hb) ?_
        simpa using HY.out.ext e HQ.out.1.size HQ.out.2.2.1)
      have HL := Lib.hid hL
      clear hE hL hT HOut hOU
      generalize (loadD m d page ((n1 : Nat) : Int)).2 = er at *
      generalize (loadD m d page ((n1 : Nat) : Int)).1 = nd at *
      go_enter Tryz.func55, Tryz.ntmps55
      go_upto_region 1 with (fail)
      refine wp_name (fun w1 => Ext W w1 ∧ Blk w1 W.heap.size (.cells (trC (.slice p n cap) h d) 70)) ⟨hx1, hb1⟩ ?_
      clear hx1 hb1
      rintro w1 ⟨hx1, hb1⟩
      go_upto_region 5 with (first
        | ((with_reducible (show wpList _ _ _ (⟨some 21, _, _, _, _, _⟩ :: _) _ _)); refine wpList_row (o := ⟨some 21, _, _, _, _, _⟩) rfl 70 (.tmp 5) rfl _ rfl _ _ _ hb1 trDesc rfl trSize ?_)
        | (go_at_call 51; refine (HL.out _ hx1).mono ?_; rintro e w2 ⟨he2, q1, c1, rfl, ho2⟩)
        | (refine wpList_put rfl 53 (.tmp 11) (.tmp 25) rfl _ #[.int .i64 nd.level, .int .i64 nd.next, .slice q1 nd.ents.length c1] rfl rfl _ _ (Blk.new w2 _) ndSize rfl (by simp [Value.oneCell']) ?_; intro w3 hn3 hc3; have hx3 := hc3.ext (Ext.alloc w2 _) (Nat.le_refl _)))
      have hX3 := (hx1.trans he2).trans hx3
      have hb3 := hX3.blk _ _ HQ.out.2.1
      have ce : w3.cell? ⟨eb, 0, none⟩ = some (.int .i64 0) := Blk.val hb3 0 _ rfl
      have fe := Blk.free hb3 0
      have le := Blk.lt hb3
      have HO3 := Lib.hid (HO.out w3 hX3 hb3)
      clear hX3 hb3 hx1 hb1 he2 ho2 hn3 hc3 hx3
      go_wp2_with fail
      exact HO3.out
end Go.Proofs.YtolmoknjmdmpgaaGreat
/- The walks of package index's bases: the iterator. -/
namespace Go.Proofs.YtolmoknjmdmpgaaGreat
open Go.RowKit Dsd
/-- The variables of the iterator. -/
structure BsAt (g0 g1 g2 g3 eb : Nat) (q : Value) (h : Hd) (d : DS) (root lv : Int) (w : World) : Prop where
  tr : Blk w g0 (.cells (trC q h d) 70)
  pg : Blk w g1 (.cells #[.int .i64 root] 3)
  lv : Blk w g2 (.cells #[.int .i64 lv] 3)
  pt : Blk w g3 (.cells #[.pointer (some ⟨eb, 0, none⟩)] 83)
  er : Blk w eb (.cells #[.int .i64 0] 31)
theorem BsAt.ext {g0 g1 g2 g3 eb : Nat} {q : Value} {h : Hd} {d : DS} {root lv : Int} {w w' : World} (i : BsAt g0 g1 g2 g3 eb q h d root lv w) (e : Ext w w') : BsAt g0 g1 g2 g3 eb q h d root lv w' := ⟨e.blk _ _ i.tr, e.blk _ _ i.pg, e.blk _ _ i.lv, e.blk _ _ i.pt, e.blk _ _ i.er⟩
set_option maxRecDepth 100000 in
theorem bases_any (q : Value) (h : Hd) (d : DS) (root lv : Int) (eb : Nat) (w : World) (he : Blk w eb (.cells #[.int .i64 0] 31)) :
    Calls Tryz.prog 33 #[.agg (trC q h d), .int .i64 root, .int .i64 lv, .pointer (some ⟨eb, 0, none⟩)] w fun e w' => Ext w w' ∧ ∃ g0 g1 g2 g3, e = .returned (.func (.func 54) #[] #[.pointer (some ⟨g0, 0, none⟩), .pointer (some ⟨g1, 0, none⟩), .pointer (some ⟨g2, 0, none⟩), .pointer (some ⟨g3, 0, none⟩)]) ∧ BsAt g0 g1 g2 g3 eb q h d root lv w' := by
  have k0 := Blk.new w (.cells (trC q h d) 70)
  have x0 := Ext.alloc w (.cells (trC q h d) 70)
  have k1 := Blk.new (w.alloc (.cells (trC q h d) 70)) (.cells #[.int .i64 root] 3)
  have x1 := Ext.alloc (w.alloc (.cells (trC q h d) 70)) (.cells #[.int .i64 root] 3)
  have k2 := Blk.new ((w.alloc (.cells (trC q h d) 70)).alloc (.cells #[.int .i64 root] 3)) (.cells #[.int .i64 lv] 3)
  have x2 := Ext.alloc ((w.alloc (.cells (trC q h d) 70)).alloc (.cells #[.int .i64 root] 3)) (.cells #[.int .i64 lv] 3)
  have k3 := Blk.new (((w.alloc (.cells (trC q h d) 70)).alloc (.cells #[.int .i64 root] 3)).alloc (.cells #[.int .i64 lv] 3)) (.cells #[.pointer (some ⟨eb, 0, none⟩)] 83)
  have x3 := Ext.alloc (((w.alloc (.cells (trC q h d) 70)).alloc (.cells #[.int .i64 root] 3)).alloc (.cells #[.int .i64 lv] 3)) (.cells #[.pointer (some ⟨eb, 0, none⟩)] 83)
  have HB : Hid (BsAt w.heap.size (w.heap.size + 1) (w.heap.size + 1 + 1) (w.heap.size + 1 + 1 + 1) eb q h d root lv ((((w.alloc (.cells (trC q h d) 70)).alloc (.cells #[.int .i64 root] 3)).alloc (.cells #[.int .i64 lv] 3)).alloc (.cells #[.pointer (some ⟨eb, 0, none⟩)] 83))) := Lib.hid (by
    simp only [World.size_alloc] at k1 k2 k3
    exact ⟨x3.blk _ _ (x2.blk _ _ (x1.blk _ _ k0)), x3.blk _ _ (x2.blk _ _ k1), x3.blk _ _ k2, k3, x3.blk _ _ (x2.blk _ _ (x1.blk _ _ (x0.blk _ _ he)))⟩)
  have HX := Lib.hid (((x0.trans x1).trans x2).trans x3)
  clear k0 k1 k2 k3 x0 x1 x2 x3 he
  go_enter Tryz.func33, Tryz.ntmps33
  go_wp2
  go_ret
  exact ⟨HX.out, _, _, _, _, rfl, HB.out⟩
set_option maxRecDepth 100000 in
set_option maxHeartbeats 1000000 in
theorem bases_iter (p : Option Addr) (cap n : Nat) (m : List (List UInt8)) (h : Hd) (d : DS) (root : Int) (H : Nat) (g0 g1 g2 g3 eb : Nat) (w0 w : World) (hs : Strs w0 p m) (hn : m.length = n) (hm : Small m) (hH : H ≤ 6) (he : Ext w0 w) (heb : w0.heap.size ≤ eb)
    (hi : BsAt g0 g1 g2 g3 eb (.slice p n cap) h d root ((H : Nat) : Int) w) (tB : Nat → TypeId → Prop) (hB : ∀ b t, tRdI t → ¬ tB b t) :
    IterAt Tryz.prog 54 #[.pointer (some ⟨g0, 0, none⟩), .pointer (some ⟨g1, 0, none⟩), .pointer (some ⟨g2, 0, none⟩), .pointer (some ⟨g3, 0, none⟩)] encI w0.heap.size (tWk eb) tB (fun xs W' => xs = (walkD m d H root).1 ∧ Blk W' eb (.cells #[.int .i64 (walkD m d H root).2] 31)) (fun pre _ => pre <+: (walkD m d H root).1) (fun pre x => pre ++ [x] <+: (walkD m d H root).1) w := by
  intro l J Jx W hx hJ hJx hY h0
  have i2 := hi.ext hx
  have HW := walk_any p cap n m h d w0 hs hn hm l eb w.heap.size heb J Jx tB (walkD m d H root).1 ⟨hB, hJ, hY⟩ H hH root [] W (he.trans hx) i2.er h0 (by simp)
  have HWk : Hid (Calls Tryz.prog 55 #[.agg (trC (.slice p n cap) h d), .int .i64 root, .int .i64 ((H : Nat) : Int), .pointer (some ⟨eb, 0, none⟩), .func (.yield l) #[] #[]] W fun e W' => ∃ v, e = .returned (.bool v) ∧ ((Blk W' eb (.cells #[.int .i64 (walkD m d H root).2] 31) ∧ J (walkD m d H root).1 W') ∨ ∃ pre', pre' <+: (walkD m d H root).1 ∧ Jx pre' W')) := Lib.hid (HW.mono (by
    rintro e W' (⟨rfl, a1, a2, a3, _⟩ | ⟨rfl, ⟨a1, a2, a3⟩ | a4⟩)
    · exact ⟨true, rfl, .inl ⟨by rw [a1]; exact a2, by simpa using a3⟩⟩
    · exact ⟨false, rfl, .inl ⟨a2, by simpa using a3⟩⟩
    · exact ⟨false, rfl, .inr a4⟩))
  generalize walkD m d H root = r at *
  have ht := i2.tr
  have c1 : W.cell? ⟨g1, 0, none⟩ = some (.int .i64 root) := Blk.val i2.pg 0 _ rfl
  have c2 : W.cell? ⟨g2, 0, none⟩ = some (.int .i64 ((H : Nat) : Int)) := Blk.val i2.lv 0 _ rfl
  have c3 : W.cell? ⟨g3, 0, none⟩ = some (.pointer (some ⟨eb, 0, none⟩)) := Blk.val i2.pt 0 _ rfl
  have l1 := Blk.lt i2.pg
  have l2 := Blk.lt i2.lv
  have l3 := Blk.lt i2.pt
  clear hs hn hm hJ hJx hY hB hi h0 HW i2
  show Calls Tryz.prog 54 #[.func (.yield l) #[] #[], .pointer (some ⟨g0, 0, none⟩), .pointer (some ⟨g1, 0, none⟩), .pointer (some ⟨g2, 0, none⟩), .pointer (some ⟨g3, 0, none⟩)] W _
  go_enter Tryz.func54, Tryz.ntmps54
  go_wp2_with (first
    | ((with_reducible (show wpList _ _ _ (⟨some 6, _, _, _, _, _⟩ :: _) _ _)); refine wpList_row (o := ⟨some 6, _, _, _, _, _⟩) rfl 70 (.tmp 1) rfl _ rfl _ _ _ ht trDesc rfl trSize ?_)
    | (go_at_call 55; refine HWk.out.mono ?_; rintro e W' ⟨v, rfl, hw⟩; have Hw := Lib.hid hw; clear hw))
  go_end0
  refine ⟨⟨_, rfl⟩, ?_⟩
  rcases Hw.out with ⟨a1, a2⟩ | ⟨pre', a1, a2⟩
  · exact .inl ⟨_, ⟨rfl, a1⟩, a2⟩
  · exact .inr ⟨pre', a1, a2⟩
end Go.Proofs.YtolmoknjmdmpgaaGreat
/- The walk of package index's Bases. -/
namespace Dsd
theorem acyc_walk {m : List (List UInt8)} {h : Hd} {d : DS} (h1 : Go.Proofs.YtolmoknjmdmpgaaGreat.acycB m h d = true) (hz : door22 h d = 0) : (walkD m d h.height.toNat h.root).1.length ≤ 4096 ∧ (walkD m d h.height.toNat h.root).2 = basesE m h d ∧ (basesE m h d = 0 → (walkD m d h.height.toNat h.root).1 = basesL m h d) := by
  unfold Go.Proofs.YtolmoknjmdmpgaaGreat.acycB at h1
  rw [Bool.and_eq_true, decide_eq_true_eq] at h1
  obtain ⟨a1, a2⟩ := h1
  have a1 : basesE m h d ≠ 8 := by simpa using a1
  have eE : basesE m h d = (belowD m d h.height.toNat h.root 4096).2 := by unfold basesE; rw [if_neg (by rw [hz]; simp)]
  have eL : basesL m h d = (belowD m d h.height.toNat h.root 4096).1 := by unfold basesL; rw [if_neg (by rw [hz]; simp)]
  rw [eL] at a2
  rw [eE] at a1
  have k := below_agrees m d h.height.toNat h.root 4096 (by omega) a1
  rw [eE, eL]
  by_cases h0 : (belowD m d h.height.toNat h.root 4096).2 = 0
  · have e := k.1 h0
    rw [e]
    exact ⟨by simp only; omega, h0.symm, fun _ => rfl⟩
  · obtain ⟨e1, e2⟩ := k.2 h0
    exact ⟨by omega, e1, fun e => absurd e h0⟩
end Dsd
namespace Go.Proofs.YtolmoknjmdmpgaaGreat
open Go.RowKit Dsd
theorem loadVar_ints (w : World) (g : Nat) (v : Value) (h : w.cell? ⟨g, 0, none⟩ = some v) : (loadVar 30 ⟨g, 0, none⟩).run Tryz.prog w = .ok v w := by
  simp [loadVar, run_underlying Tryz.underlying30, go_sem, h]
theorem loadVar_errno (w : World) (g : Nat) (v : Value) (h : w.cell? ⟨g, 0, none⟩ = some v) : (loadVar 31 ⟨g, 0, none⟩).run Tryz.prog w = .ok v w := by
  simp [loadVar, run_underlying Tryz.underlying31, go_sem, h]
theorem results_bases (tmps : Array Value) (w : World) (g g2 : Nat) (v v2 : Value) (hp : tmps.getD 6 undef = .pointer (some ⟨g, 0, none⟩)) (hp2 : tmps.getD 7 undef = .pointer (some ⟨g2, 0, none⟩)) (h : w.cell? ⟨g, 0, none⟩ = some v) (h2 : w.cell? ⟨g2, 0, none⟩ = some v2) :
    (results Tryz.f15 tmps).run Tryz.prog w = .ok (.tuple #[v, v2]) w := by
  have hp' : tmps[6]?.getD undef = .pointer (some ⟨g, 0, none⟩) := by simpa using hp
  have hp2' : tmps[7]?.getD undef = .pointer (some ⟨g2, 0, none⟩) := by simpa using hp2
  simp [results, Tryz.results15, hp', hp2', asAddr, loadVar_ints w g v h, loadVar_errno w g2 v2 h2, Sem.run_bind]
/-- The variables of the two results. -/
structure RcAt (b : Nat) (v : Value) (e : Int) (W : World) : Prop where
  c1 : Blk W b (.cells #[v] 30)
  c2 : Blk W (b + 1) (.cells #[.int .i64 e] 31)
theorem rc_set {b : Nat} {v0 : Value} {e0 : Int} {W : World} (n : RcAt b v0 e0 W) (v : Value) (e : Int) : RcAt b v e ((W.setCell ⟨b, 0, none⟩ v).setCell ⟨b + 1, 0, none⟩ (.int .i64 e)) ∧
    (∀ w, Ext w W → w.heap.size ≤ b → Ext w ((W.setCell ⟨b, 0, none⟩ v).setCell ⟨b + 1, 0, none⟩ (.int .i64 e))) ∧ ∀ B, KeepsFrom B W ((W.setCell ⟨b, 0, none⟩ v).setCell ⟨b + 1, 0, none⟩ (.int .i64 e)) := by
  have k1 := Chg.setCell (w := W) (g := b) (i := 0) (v := v)
  have a1 : Blk (W.setCell ⟨b, 0, none⟩ v) b (.cells #[v] 30) := Blk.setCell n.c1
  have a2 := k1.blk n.c2 (by omega)
  have q1 := fun B => KeepsFrom.of_chg (B := B) k1 n.c1
  generalize W.setCell ⟨b, 0, none⟩ v = W1 at *
  have k2 := Chg.setCell (w := W1) (g := b + 1) (i := 0) (v := .int .i64 e)
  have b1 := k2.blk a1 (by omega)
  have b2 : Blk (W1.setCell ⟨b + 1, 0, none⟩ (.int .i64 e)) (b + 1) (.cells #[.int .i64 e] 31) := Blk.setCell a2
  have q2 := fun B => KeepsFrom.of_chg (B := B) k2 a2
  generalize W1.setCell ⟨b + 1, 0, none⟩ (.int .i64 e) = W2 at *
  exact ⟨⟨b1, b2⟩, fun w he hb => k2.ext (k1.ext he hb) (by omega), fun B => (q1 B).trans (q2 B)⟩
theorem rc_own {b : Nat} {v0 : Value} {e0 : Int} {W : World} (n : RcAt b v0 e0 W) (v : Value) (e : Int) {B k : Nat} {u : Value} {xs : List Value} (h : W.ownsRow B 3 1 u k xs) : ((W.setCell ⟨b, 0, none⟩ v).setCell ⟨b + 1, 0, none⟩ (.int .i64 e)).ownsRow B 3 1 u k xs := by
  have k1 := Chg.setCell (w := W) (g := b) (i := 0) (v := v)
  have a2 := k1.blk n.c2 (by omega)
  have o1 := own_chgT h (by decide) n.c1 k1
  generalize W.setCell ⟨b, 0, none⟩ v = W1 at *
  have k2 := Chg.setCell (w := W1) (g := b + 1) (i := 0) (v := .int .i64 e)
  exact own_chgT o1 (by decide) a2 k2
attribute [local go_sem] Oper.semAt_some
set_option maxRecDepth 100000 in
set_option maxHeartbeats 4000000 in
theorem Bases22_any (p : Option Addr) (cap n : Nat) (m : List (List UInt8)) (h : Hd) (d : DS) (w : World) (hs : Strs w p m) (hn : m.length = n) (hm : Small m) (hac : acycB m h d = true) :
    Calls Tryz.prog 15 #[.iface 29 (.slice p n cap), .agg #[.int .i64 h.applied, .int .i64 h.count, .int .i64 h.fin, .int .i64 h.root, .int .i64 h.height, .int .i64 h.splits, .int .i64 h.areas], .agg #[.int .i64 d.id, .int .i64 d.org, .int .i64 d.format, .int .i64 d.length, .int .i64 d.block, .int .i64 d.keyAt, .int .i64 d.keyLength, .int .i64 d.interval, .int .i64 d.area, .int .i64 d.freeInterval, .int .i64 d.freeArea, .int .i64 d.base, .int .i64 d.altAt, .int .i64 d.altLength, .bool d.unique, .int .i64 d.cls, .string ⟨d.volume.toArray⟩, .string ⟨d.owner.toArray⟩, .int .i64 d.created, .int .i64 d.expires, .bool d.archived]] w (BelOut (if basesE m h d = 0 then basesL m h d else []) (basesE m h d) w) := by
  have hdd := hd_ds w h d
  by_cases hz : door22 h d = 0
  · obtain ⟨k1, k2, k3, k4, k5, k6, k7⟩ := door22_zero hz
    obtain ⟨H, hH⟩ : ∃ H : Nat, h.height = H := ⟨h.height.toNat, by omega⟩
    have HH := Lib.hid hH
    have hH6 : H ≤ 6 := by omega
    have Hs := Lib.hid hs
    have hac2 := acyc_walk hac hz
    rw [hH, Int.toNat_natCast] at hac2
    have HLen := Lib.hid hac2.1
    have HYes : Hid (∀ e w' q c, (walkD m d H h.root).2 = 0 → Ext w w' → e = .returned (.tuple #[.slice q (walkD m d H h.root).1.length c, .int .i64 0]) → w'.ownsRow w.heap.size 3 1 (.slice q (walkD m d H h.root).1.length c) (walkD m d H h.root).1.length (intC (walkD m d H h.root).1) → BelOut (if basesE m h d = 0 then basesL m h d else []) (basesE m h d) w e w') := Lib.hid (fun e w' q c h0 h1 h2 h3 => by
      rw [hac2.2.1] at h0
      rw [if_pos h0, h0, ← hac2.2.2 h0]
      exact ⟨h1, q, c, h2, h3⟩)
    have HNo : Hid (∀ e w', (walkD m d H h.root).2 ≠ 0 → Ext w w' → e = .returned (.tuple #[.slice none 0 0, .int .i64 (walkD m d H h.root).2]) → BelOut (if basesE m h d = 0 then basesL m h d else []) (basesE m h d) w e w') := Lib.hid (fun e w' h0 h1 h2 => by
      rw [hac2.2.1] at h0 h2
      rw [if_neg h0]
      exact bel_no h1 h2)
    have HOp : Hid (∀ W, Calls Tryz.prog 26 #[.iface 29 (.slice p n cap), .agg #[.int .i64 h.applied, .int .i64 h.count, .int .i64 h.fin, .int .i64 h.root, .int .i64 h.height, .int .i64 h.splits, .int .i64 h.areas], .agg #[.int .i64 d.id, .int .i64 d.org, .int .i64 d.format, .int .i64 d.length, .int .i64 d.block, .int .i64 d.keyAt, .int .i64 d.keyLength, .int .i64 d.interval, .int .i64 d.area, .int .i64 d.freeInterval, .int .i64 d.freeArea, .int .i64 d.base, .int .i64 d.altAt, .int .i64 d.altLength, .bool d.unique, .int .i64 d.cls, .string ⟨d.volume.toArray⟩, .string ⟨d.owner.toArray⟩, .int .i64 d.created, .int .i64 d.expires, .bool d.archived]] W fun e w' => e = .returned (.tuple #[.agg (trC (.slice p n cap) h d), .int .i64 0]) ∧ Ext W w') := Lib.hid (fun W => (open22_any p n cap h d W).mono (fun e w' ⟨h1, h2⟩ => by
      rcases h2 with ⟨_, h3⟩ | ⟨h3, _⟩
      · exact ⟨h3, h1⟩
      · rw [hz] at h3; cases h3))
    clear hac2 hac
    clear hs hz k1 k2 k3 k4 k5 k6 k7 hH
    generalize BelOut (if basesE m h d = 0 then basesL m h d else []) (basesE m h d) w = OUT at *
    refine calls_of_wp_marks Tryz.func15 rfl ?_
    simp only [Tryz.ntmps15, List.size_toArray, List.length_cons, List.length_nil, Nat.reduceAdd, Nat.reduceSub, Array.replicate_succ, Array.replicate_zero, List.push_toArray, List.append_toArray, List.nil_append, List.cons_append]
    go_upto_region 1 with (fail)
    obtain ⟨x1, b1, b2⟩ := hdd
    have x2 := Ext.alloc ((w.alloc (.cells #[.int .i64 h.applied, .int .i64 h.count, .int .i64 h.fin, .int .i64 h.root, .int .i64 h.height, .int .i64 h.splits, .int .i64 h.areas] 24)).alloc (.cells #[.int .i64 d.id, .int .i64 d.org, .int .i64 d.format, .int .i64 d.length, .int .i64 d.block, .int .i64 d.keyAt, .int .i64 d.keyLength, .int .i64 d.interval, .int .i64 d.area, .int .i64 d.freeInterval, .int .i64 d.freeArea, .int .i64 d.base, .int .i64 d.altAt, .int .i64 d.altLength, .bool d.unique, .int .i64 d.cls, .string ⟨d.volume.toArray⟩, .string ⟨d.owner.toArray⟩, .int .i64 d.created, .int .i64 d.expires, .bool d.archived] 26)) (.cells #[.slice none 0 0] 30)
    have b3 := Blk.new ((w.alloc (.cells #[.int .i64 h.applied, .int .i64 h.count, .int .i64 h.fin, .int .i64 h.root, .int .i64 h.height, .int .i64 h.splits, .int .i64 h.areas] 24)).alloc (.cells #[.int .i64 d.id, .int .i64 d.org, .int .i64 d.format, .int .i64 d.length, .int .i64 d.block, .int .i64 d.keyAt, .int .i64 d.keyLength, .int .i64 d.interval, .int .i64 d.area, .int .i64 d.freeInterval, .int .i64 d.freeArea, .int .i64 d.base, .int .i64 d.altAt, .int .i64 d.altLength, .bool d.unique, .int .i64 d.cls, .string ⟨d.volume.toArray⟩, .string ⟨d.owner.toArray⟩, .int .i64 d.created, .int .i64 d.expires, .bool d.archived] 26)) (.cells #[.slice none 0 0] 30)
    have x3 := Ext.alloc (((w.alloc (.cells #[.int .i64 h.applied, .int .i64 h.count, .int .i64 h.fin, .int .i64 h.root, .int .i64 h.height, .int .i64 h.splits, .int .i64 h.areas] 24)).alloc (.cells #[.int .i64 d.id, .int .i64 d.org, .int .i64 d.format, .int .i64 d.length, .int .i64 d.block, .int .i64 d.keyAt, .int .i64 d.keyLength, .int .i64 d.interval, .int .i64 d.area, .int .i64 d.freeInterval, .int .i64 d.freeArea, .int .i64 d.base, .int .i64 d.altAt, .int .i64 d.altLength, .bool d.unique, .int .i64 d.cls, .string ⟨d.volume.toArray⟩, .string ⟨d.owner.toArray⟩, .int .i64 d.created, .int .i64 d.expires, .bool d.archived] 26)).alloc (.cells #[.slice none 0 0] 30)) (.cells #[.int .i64 0] 31)
    have b4 := Blk.new (((w.alloc (.cells #[.int .i64 h.applied, .int .i64 h.count, .int .i64 h.fin, .int .i64 h.root, .int .i64 h.height, .int .i64 h.splits, .int .i64 h.areas] 24)).alloc (.cells #[.int .i64 d.id, .int .i64 d.org, .int .i64 d.format, .int .i64 d.length, .int .i64 d.block, .int .i64 d.keyAt, .int .i64 d.keyLength, .int .i64 d.interval, .int .i64 d.area, .int .i64 d.freeInterval, .int .i64 d.freeArea, .int .i64 d.base, .int .i64 d.altAt, .int .i64 d.altLength, .bool d.unique, .int .i64 d.cls, .string ⟨d.volume.toArray⟩, .string ⟨d.owner.toArray⟩, .int .i64 d.created, .int .i64 d.expires, .bool d.archived] 26)).alloc (.cells #[.slice none 0 0] 30)) (.cells #[.int .i64 0] 31)
    simp only [World.size_alloc] at b3 b4
    refine wp_name (fun w0 => Ext w w0 ∧ HdAt w0 w.heap.size h ∧ DsAt w0 (w.heap.size + 1) d ∧ Blk w0 (w.heap.size + 1 + 1) (.cells #[.slice none 0 0] 30) ∧ Blk w0 (w.heap.size + 1 + 1 + 1) (.cells #[.int .i64 0] 31)) ⟨(x1.trans x2).trans x3, (b1.ext x2).ext x3, (b2.ext x2).ext x3, x3.blk _ _ b3, b4⟩ ?_
    clear x1 b1 b2 x2 b3 x3 b4
    rintro w0 ⟨he0, hb1, hb2, hb3, hb4⟩
    go_upto_region 4 with (first
      | ((with_reducible (show wpList _ _ _ (⟨some 14, _, _, _, _, _⟩ :: _) _ _)); refine wpList_hd (o := ⟨some 14, _, _, _, _, _⟩) rfl (.tmp 4) rfl _ rfl h hb1 ?_)
      | ((with_reducible (show wpList _ _ _ (⟨some 15, _, _, _, _, _⟩ :: _) _ _)); refine wpList_ds (o := ⟨some 15, _, _, _, _, _⟩) rfl (.tmp 5) rfl _ rfl d hb2 ?_)
      | (go_at_call 26; refine (HOp.out _).mono ?_; rintro e w1 ⟨rfl, he1⟩)
      | (refine wpList_put rfl 70 (.tmp 8) (.tmp 17) rfl _ (trC (.slice p n cap) h d) rfl rfl _ _ (Blk.alloc (Blk.new w1 _) _) trSize rfl (tr_one p n cap h d) ?_; intro w3 ht3 hc3; have he3 := hc3.blk (Blk.new1 (w1.alloc (.cells trZ 70)) (.cells #[.int .i64 0] 31) (w1.heap.size + 1) (by simp)) (by omega); have ce3 : w3.cell? ⟨w1.heap.size + 1, 0, none⟩ = some (.int .i64 0) := Blk.val he3 0 _ rfl; have fe3 := Blk.free he3 0; have le3 := Blk.lt he3))
    have hE3 : Ext w0 w3 := hc3.ext (he1.trans ((Ext.alloc w1 _).trans (Ext.alloc _ _))) he1.size
    have hcE := Chg.setCell (w := w3) (g := w1.heap.size + 1) (i := 0) (v := .int .i64 0)
    have hE4 : Ext w0 (w3.setCell ⟨w1.heap.size + 1, 0, none⟩ (.int .i64 0)) := hcE.ext hE3 (by have := he1.size; omega)
    have hsz0 := he0.size
    have hsz1 := he1.size
    refine wp_name (fun w4 => Ext w w4 ∧ HdAt w4 w.heap.size h ∧ Blk w4 (w.heap.size + 1 + 1) (.cells #[.slice none 0 0] 30) ∧ Blk w4 (w.heap.size + 1 + 1 + 1) (.cells #[.int .i64 0] 31) ∧ Blk w4 w1.heap.size (.cells (trC (.slice p n cap) h d) 70) ∧ Blk w4 (w1.heap.size + 1) (.cells #[.int .i64 0] 31) ∧ w.heap.size + 1 + 1 + 1 < w1.heap.size) ⟨he0.trans hE4, hb1.ext hE4, hE4.blk _ _ hb3, hE4.blk _ _ hb4, hcE.blk ht3 (by omega), Blk.setCell he3, by have := Blk.lt hb4; omega⟩ ?_
    clear hE3 hcE hE4 he0 he1 hb1 hb2 hb3 hb4 ht3 hc3 he3 ce3 fe3 le3 hsz0 hsz1
    generalize w1.heap.size = tb at *
    rintro w4 ⟨hx4, hh4, hr4, hq4, ht4, he4, htb⟩
    have c3 : w4.cell? ⟨w.heap.size, 3, none⟩ = some (.int .i64 h.root) := Blk.val hh4 3 _ rfl
    have c4 : w4.cell? ⟨w.heap.size, 4, none⟩ = some (.int .i64 h.height) := Blk.val hh4 4 _ rfl
    rw [HH.out] at c4
    have l4 := Blk.lt hh4
    go_wp2_with (first
      | ((with_reducible (show wpList _ _ _ (⟨some 22, _, _, _, _, _⟩ :: _) _ _)); refine wpList_row (o := ⟨some 22, _, _, _, _, _⟩) rfl 70 (.tmp 8) rfl _ rfl _ _ _ (Blk.alloc ht4 _) trDesc rfl trSize ?_)
      | (go_at_call 33; refine (bases_any _ h d h.root ((H : Nat) : Int) (tb + 1) _ (Blk.alloc he4 _)).mono ?_; rintro e w5 ⟨he5, g0, g1, g2, g3, rfl, hit⟩))
    have hE45 : Ext w4 w5 := (Ext.alloc w4 (.cells #[.slice none 0 0] 30)).trans he5
    have hob : Blk w5 w4.heap.size (.cells #[.slice none 0 0] 30) := he5.blk _ _ (Blk.new w4 _)
    have hE5 : Ext w w5 := hx4.trans hE45
    have hr5 := hE45.blk _ _ hr4
    have hq5 := hE45.blk _ _ hq4
    have hwo : w.heap.size ≤ w4.heap.size := hx4.size
    have hrl := Blk.lt hr4
    have hql := Blk.lt hq4
    generalize w4.heap.size = ob at *
    have HIt := bases_iter p cap n m h d h.root H g0 g1 g2 g3 (tb + 1) w w5 Hs.out hn hm hH6 hE5 (by omega) hit (fun _ t => t = 30 ∨ t = 3) (by rintro b t ht hb; rcases ht with rfl | rfl | rfl | rfl <;> rcases hb with hb | hb <;> exact absurd hb (by decide))
    generalize hRR : walkD m d H h.root = R at *
    have HI0 : Hid (Ext w w5 ∧ Blk w5 (w.heap.size + 1 + 1) (.cells #[.slice none 0 0] 30) ∧ Blk w5 (w.heap.size + 1 + 1 + 1) (.cells #[.int .i64 0] 31) ∧ ∃ v, Blk w5 ob (.cells #[v] 30) ∧ w5.ownsRow w.heap.size 3 1 v ([] : List Int).length (intC [])) := Lib.hid ⟨hE5, hr5, hq5, _, hob, World.ownsRow_nil _ _ _ _⟩
    have Hit := Lib.hid HIt
    have HRR := Lib.hid hRR
    clear hob hit HIt he5 hx4 hh4 hr4 hq4 ht4 he4 c3 c4 l4 hE45 hr5 hq5 hRR
    refine wp_rangeFunc_kc (n0 := w.heap.size) hE5.size (tI := tWk (tb + 1)) rfl (enters_of Tryz.func54 (by kernel_rfl) rfl) (encs := encI) (fun x => rfl) (fun xs A B k hS => ⟨hS.1, k.blk hS.2 (fun h => h)⟩) (fun xs A B k hS => hS) Hit.out
      (fun pre W => Ext w W ∧ Blk W (w.heap.size + 1 + 1) (.cells #[.slice none 0 0] 30) ∧ Blk W (w.heap.size + 1 + 1 + 1) (.cells #[.int .i64 0] 31) ∧ ∃ v, Blk W ob (.cells #[v] 30) ∧ W.ownsRow w.heap.size 3 1 v pre.length (intC pre)) (fun _ _ _ => False)
      (fun pre A B k ⟨he, h1, h2, v, hb, ho⟩ => ⟨Ext.trans' he k.below, k.blk h1 (by rintro ⟨_, h⟩; exact absurd h (by decide)), k.blk h2 (by rintro ⟨h, _⟩; omega), v, k.blk hb (by rintro ⟨_, h⟩; exact absurd h (by decide)), own_kc ho k (by rintro b ⟨_, h⟩; exact absurd h (by decide))⟩) (fun _ _ _ _ _ h => h) HI0.out ?round ?done (fun _ _ _ _ _ _ h => h.elim)
    case round =>
      rintro l pre x W hz ⟨hex, h1, h2, v, hbo, hown⟩ hnx
      dsimp only [encI]
      gi_wp2
      refine ⟨KeepsFrom.of_ext (Ext.refl _), ?_⟩
      intro W2 hk2 hz2
      have hlx : pre.length + 1 ≤ 4096 := by
        have h3 := List.IsPrefix.length_le hnx
        simp only [List.length_append, List.length_cons, List.length_nil] at h3
        have := HLen.out
        omega
      have hne : (((pre.length : Nat) : Int) == 4096) = false := by simp; omega
      have hnn : ¬ pre.length = 4096 := by omega
      have hex2 : Ext w W2 := Ext.trans' hex hk2.below
      have Hk : Hid (Kc w.heap.size (fun _ t => t = 30 ∨ t = 3) W W2) := Lib.hid (hk2.mono (fun _ _ h => h.elim))
      have Hown := Lib.hid (own_kc hown hk2 (fun _ h => h))
      obtain ⟨qo, co, rfl⟩ := own_slice hown
      have hbo2 := hk2.blk hbo (fun h => h)
      have HC2 := Lib.hid (And.intro (hk2.blk h1 (fun h => h)) (And.intro (hk2.blk h2 (fun h => h)) (And.intro hex2 hbo2)))
      have c0 : W2.cell? ⟨ob, 0, none⟩ = some (.slice qo pre.length co) := Blk.val hbo2 0 _ rfl
      have f0 : W2.frozen? ⟨ob, 0, none⟩ = false := Blk.free hbo2 0
      have l0 := Blk.lt hbo2
      have Hpre : Hid (intC (pre ++ [x]) = intC pre ++ [.int .i64 x]) := Lib.hid (by simp [intC])
      clear hex h1 h2 hbo hbo2 hex2 hown hk2 hz2 hnx
      refine wpIn_block ?_
      refine wpIn_seq_k (fun K7 hK7 => ?_)
      have HK7 := Lib.hid hK7
      clear hK7
      gi_wp2
      refine HK7.out _ _ ?_
      refine region_in (.inr ⟨l, rfl⟩) (fun ⟨_, _, h⟩ => h) (by rfl) ?_
      have He2 := Lib.hid (Ext.alloc W2 (.cells #[.int .i64 x] 3))
      have hbo3 := He2.out.blk _ _ HC2.out.2.2.2
      have HB3 := Lib.hid hbo3
      have hzw := HC2.out.2.2.1.size
      clear hbo3
      go_wp2_with (at_builtin; go_must (refine wpList_app rfl (.tmp 32) (.tmp 34) 30 3 rfl w.heap.size (.int .i64 0) 1 8 Tryz.underlying30 infoInt rfl (by decide) _ pre.length _ rfl (own_ext Hown.out He2.out) _ [.int .i64 x] rfl (Blk.new W2 _) rfl (by intro u hu; simp at hu; subst hu; rfl) (by omega) (by decide) (by simp; omega) ?_; intro v8 w8 hout8 hgr8; obtain ⟨q8, k8, rfl⟩ := own_slice hout8; have ho3 := own_ext Hown.out He2.out; have hk8 := Kc.of_grown (n0 := w.heap.size) (tc := fun _ t => t = 3) hgr8 ho3 (Nat.le_refl _) (by simp; omega) (fun _ => rfl); have hf8 := KeepsFrom.of_grown (B := w5.heap.size) hgr8 ho3; have hb8 := hk8.blk HB3.out (by decide); have c8 := (show w8.cell? ⟨ob, 0, none⟩ = some (.slice qo pre.length co) from Blk.val hb8 0 _ rfl); have f8 := (show w8.frozen? ⟨ob, 0, none⟩ = false from Blk.free hb8 0); have Hout8 := Lib.hid hout8; have Hk8 := Lib.hid hk8; have Hf8 := Lib.hid hf8; have Hb8 := Lib.hid hb8; clear hout8 hgr8 hk8 hf8 hb8 ho3))
      have hc := Chg.setCell (w := w8) (g := ob) (i := 0) (v := .slice q8 (pre.length + 1) k8)
      exact ⟨((KeepsFrom.of_ext He2.out).trans Hf8.out).trans (KeepsFrom.of_chg hc Hb8.out), Hk.out.trans ((Kc.of_ext He2.out hzw).trans ((Hk8.out.mono (fun _ _ h => .inr h)).trans (Kc.of_chg hc hwo Hb8.out (.inl rfl)))),
        hc.ext (Ext.trans' (HC2.out.2.2.1.trans He2.out) Hk8.out.below) hwo, hc.blk (Hk8.out.blk (He2.out.blk _ _ HC2.out.1) (by decide)) (by omega), hc.blk (Hk8.out.blk (He2.out.blk _ _ HC2.out.2.1) (by decide)) (by omega), _, Blk.setCell Hb8.out, by rw [Hpre.out, List.length_append]; exact own_chgT Hout8.out (by decide) Hb8.out hc⟩
    case done =>
      rintro D xs W hD ⟨rfl, heb⟩ ⟨hex, h1, h2, v, hbo, hown⟩ hK
      have hz5 := hE5.size
      obtain ⟨qv, cv, rfl⟩ := own_slice hown
      have c0 : W.cell? ⟨ob, 0, none⟩ = some (.slice qv R.1.length cv) := Blk.val hbo 0 _ rfl
      have ce : W.cell? ⟨tb + 1, 0, none⟩ = some (.int .i64 R.2) := Blk.val heb 0 _ rfl
      have d1 : W.cell? ⟨w.heap.size + 1 + 1, 0, none⟩ = some (.slice none 0 0) := Blk.val h1 0 _ rfl
      have d2 : W.cell? ⟨w.heap.size + 1 + 1 + 1, 0, none⟩ = some (.int .i64 0) := Blk.val h2 0 _ rfl
      have f1 : W.frozen? ⟨w.heap.size + 1 + 1, 0, none⟩ = false := Blk.free h1 0
      have f2 : W.frozen? ⟨w.heap.size + 1 + 1 + 1, 0, none⟩ = false := Blk.free h2 0
      have l0 := Blk.lt hbo
      have le := Blk.lt heb
      have l1 := Blk.lt h1
      have l2 := Blk.lt h2
      have hne1 : ob ≠ w.heap.size + 1 + 1 := by omega
      have hne2 : tb + 1 ≠ w.heap.size + 1 + 1 := by omega
      have HRs : Hid (RcAt (w.heap.size + 1 + 1) (.slice none 0 0) 0 W) := Lib.hid ⟨h1, h2⟩
      have Hown := Lib.hid hown
      have HK := Lib.hid hK
      have Hex := Lib.hid hex
      clear hown hK hex hbo heb h1 h2
      obtain ⟨RL, RE⟩ := R
      simp only at c0 ce HYes HNo Hown
      dsimp only
      by_cases hre : RE = 0
      · subst hre
        go_wp2_with fail
        have hns := rc_set HRs.out (.slice qv RL.length cv) 0
        have hK2 := (hns.2.2 0).same _ _ (Nat.zero_le _) HK.out rfl
        have hkp := Kc.of_put (n0 := w.heap.size) (tc := fun _ _ => False) (.deferred none) hK2 rfl (by omega)
        exact postM_mark hK2 (results_bases _ _ _ _ _ _ rfl rfl (Blk.val (hkp.blk hns.1.c1 (fun h => h)) 0 _ rfl) (Blk.val (hkp.blk hns.1.c2 (fun h => h)) 0 _ rfl)) (HYes.out _ _ _ _ (by first | trivial | rfl) (Ext.trans' (hns.2.1 w Hex.out (by omega)) hkp.below) rfl (own_kc (rc_own HRs.out _ _ Hown.out) hkp (fun _ h => h)))
      · have hreI : (RE != 0) = true := by simpa using hre
        have HN2 := Lib.hid (fun e w' => HNo.out e w' hre)
        clear hre
        go_upto_region 11 with fail
        go_region
        all_goals
          go_wp2_with fail
          have hns := rc_set HRs.out (.slice none 0 0) RE
          have hns3 := (hns.2.2 0).trans (KeepsFrom.of_ext (Ext.drew _))
          have hK2 := hns3.same _ _ (Nat.zero_le _) HK.out rfl
          have hkp := Kc.of_put (n0 := w.heap.size) (tc := fun _ _ => False) (.deferred none) hK2 rfl (by omega)
          exact postM_mark hK2 (results_bases _ _ _ _ _ _ rfl rfl (Blk.val (hkp.blk ((Ext.drew _).blk _ _ hns.1.c1) (fun h => h)) 0 _ rfl) (Blk.val (hkp.blk ((Ext.drew _).blk _ _ hns.1.c2) (fun h => h)) 0 _ rfl)) (HN2.out _ _ (Ext.trans' ((hns.2.1 w Hex.out (by omega)).trans (Ext.drew _)) hkp.below) rfl)
  · have hz1 : door22 h d = 1 := by unfold door22 at hz ⊢; split at hz <;> rename_i hq; exact absurd rfl hz; rw [if_neg hq]
    have HOp : Hid (∀ W, Calls Tryz.prog 26 #[.iface 29 (.slice p n cap), .agg #[.int .i64 h.applied, .int .i64 h.count, .int .i64 h.fin, .int .i64 h.root, .int .i64 h.height, .int .i64 h.splits, .int .i64 h.areas], .agg #[.int .i64 d.id, .int .i64 d.org, .int .i64 d.format, .int .i64 d.length, .int .i64 d.block, .int .i64 d.keyAt, .int .i64 d.keyLength, .int .i64 d.interval, .int .i64 d.area, .int .i64 d.freeInterval, .int .i64 d.freeArea, .int .i64 d.base, .int .i64 d.altAt, .int .i64 d.altLength, .bool d.unique, .int .i64 d.cls, .string ⟨d.volume.toArray⟩, .string ⟨d.owner.toArray⟩, .int .i64 d.created, .int .i64 d.expires, .bool d.archived]] W fun e w' => e = .returned (.tuple #[.agg trZ, .int .i64 1]) ∧ Ext W w') := Lib.hid (fun W => (open22_any p n cap h d W).mono (fun e w' ⟨h1, h2⟩ => by
      rcases h2 with ⟨h3, _⟩ | ⟨_, h3⟩
      · exact absurd h3 hz
      · exact ⟨h3, h1⟩))
    have eE : basesE m h d = 1 := by unfold basesE; rw [if_pos hz]
    rw [eE, if_neg (by decide)]
    have HO : Hid (∀ e w', Ext w w' → e = .returned (.tuple #[.slice none 0 0, .int .i64 1]) → BelOut [] 1 w e w') := Lib.hid (fun e w' h1 h2 => bel_no h1 h2)
    clear hz hz1 eE hac hs
    generalize BelOut [] 1 w = OUT at *
    refine calls_of_wp_marks Tryz.func15 rfl ?_
    simp only [Tryz.ntmps15, List.size_toArray, List.length_cons, List.length_nil, Nat.reduceAdd, Nat.reduceSub, Array.replicate_succ, Array.replicate_zero, List.push_toArray, List.append_toArray, List.nil_append, List.cons_append]
    go_upto_region 1 with (fail)
    obtain ⟨x1, b1, b2⟩ := hdd
    have x2 := Ext.alloc ((w.alloc (.cells #[.int .i64 h.applied, .int .i64 h.count, .int .i64 h.fin, .int .i64 h.root, .int .i64 h.height, .int .i64 h.splits, .int .i64 h.areas] 24)).alloc (.cells #[.int .i64 d.id, .int .i64 d.org, .int .i64 d.format, .int .i64 d.length, .int .i64 d.block, .int .i64 d.keyAt, .int .i64 d.keyLength, .int .i64 d.interval, .int .i64 d.area, .int .i64 d.freeInterval, .int .i64 d.freeArea, .int .i64 d.base, .int .i64 d.altAt, .int .i64 d.altLength, .bool d.unique, .int .i64 d.cls, .string ⟨d.volume.toArray⟩, .string ⟨d.owner.toArray⟩, .int .i64 d.created, .int .i64 d.expires, .bool d.archived] 26)) (.cells #[.slice none 0 0] 30)
    have b3 := Blk.new ((w.alloc (.cells #[.int .i64 h.applied, .int .i64 h.count, .int .i64 h.fin, .int .i64 h.root, .int .i64 h.height, .int .i64 h.splits, .int .i64 h.areas] 24)).alloc (.cells #[.int .i64 d.id, .int .i64 d.org, .int .i64 d.format, .int .i64 d.length, .int .i64 d.block, .int .i64 d.keyAt, .int .i64 d.keyLength, .int .i64 d.interval, .int .i64 d.area, .int .i64 d.freeInterval, .int .i64 d.freeArea, .int .i64 d.base, .int .i64 d.altAt, .int .i64 d.altLength, .bool d.unique, .int .i64 d.cls, .string ⟨d.volume.toArray⟩, .string ⟨d.owner.toArray⟩, .int .i64 d.created, .int .i64 d.expires, .bool d.archived] 26)) (.cells #[.slice none 0 0] 30)
    have x3 := Ext.alloc (((w.alloc (.cells #[.int .i64 h.applied, .int .i64 h.count, .int .i64 h.fin, .int .i64 h.root, .int .i64 h.height, .int .i64 h.splits, .int .i64 h.areas] 24)).alloc (.cells #[.int .i64 d.id, .int .i64 d.org, .int .i64 d.format, .int .i64 d.length, .int .i64 d.block, .int .i64 d.keyAt, .int .i64 d.keyLength, .int .i64 d.interval, .int .i64 d.area, .int .i64 d.freeInterval, .int .i64 d.freeArea, .int .i64 d.base, .int .i64 d.altAt, .int .i64 d.altLength, .bool d.unique, .int .i64 d.cls, .string ⟨d.volume.toArray⟩, .string ⟨d.owner.toArray⟩, .int .i64 d.created, .int .i64 d.expires, .bool d.archived] 26)).alloc (.cells #[.slice none 0 0] 30)) (.cells #[.int .i64 0] 31)
    have b4 := Blk.new (((w.alloc (.cells #[.int .i64 h.applied, .int .i64 h.count, .int .i64 h.fin, .int .i64 h.root, .int .i64 h.height, .int .i64 h.splits, .int .i64 h.areas] 24)).alloc (.cells #[.int .i64 d.id, .int .i64 d.org, .int .i64 d.format, .int .i64 d.length, .int .i64 d.block, .int .i64 d.keyAt, .int .i64 d.keyLength, .int .i64 d.interval, .int .i64 d.area, .int .i64 d.freeInterval, .int .i64 d.freeArea, .int .i64 d.base, .int .i64 d.altAt, .int .i64 d.altLength, .bool d.unique, .int .i64 d.cls, .string ⟨d.volume.toArray⟩, .string ⟨d.owner.toArray⟩, .int .i64 d.created, .int .i64 d.expires, .bool d.archived] 26)).alloc (.cells #[.slice none 0 0] 30)) (.cells #[.int .i64 0] 31)
    simp only [World.size_alloc] at b3 b4
    refine wp_name (fun w0 => Ext w w0 ∧ HdAt w0 w.heap.size h ∧ DsAt w0 (w.heap.size + 1) d ∧ Blk w0 (w.heap.size + 1 + 1) (.cells #[.slice none 0 0] 30) ∧ Blk w0 (w.heap.size + 1 + 1 + 1) (.cells #[.int .i64 0] 31)) ⟨(x1.trans x2).trans x3, (b1.ext x2).ext x3, (b2.ext x2).ext x3, x3.blk _ _ b3, b4⟩ ?_
    clear x1 b1 b2 x2 b3 x3 b4
    rintro w0 ⟨he0, hb1, hb2, hb3, hb4⟩
    go_upto_region 3 with (first
      | ((with_reducible (show wpList _ _ _ (⟨some 14, _, _, _, _, _⟩ :: _) _ _)); refine wpList_hd (o := ⟨some 14, _, _, _, _, _⟩) rfl (.tmp 4) rfl _ rfl h hb1 ?_)
      | ((with_reducible (show wpList _ _ _ (⟨some 15, _, _, _, _, _⟩ :: _) _ _)); refine wpList_ds (o := ⟨some 15, _, _, _, _, _⟩) rfl (.tmp 5) rfl _ rfl d hb2 ?_)
      | (go_at_call 26; refine (HOp.out _).mono ?_; rintro e w1 ⟨rfl, he1⟩)
      | (refine wpList_put rfl 70 (.tmp 8) (.tmp 17) rfl _ trZ rfl rfl _ _ (Blk.alloc (Blk.new w1 _) _) trSize rfl trZ_one ?_; intro w3 ht3 hc3; have he3 := hc3.blk (Blk.new1 (w1.alloc (.cells trZ 70)) (.cells #[.int .i64 0] 31) (w1.heap.size + 1) (by simp)) (by omega); have ce3 : w3.cell? ⟨w1.heap.size + 1, 0, none⟩ = some (.int .i64 0) := Blk.val he3 0 _ rfl; have fe3 := Blk.free he3 0; have le3 := Blk.lt he3))
    have hE3 : Ext w0 w3 := hc3.ext (he1.trans ((Ext.alloc w1 _).trans (Ext.alloc _ _))) he1.size
    have hcE := Chg.setCell (w := w3) (g := w1.heap.size + 1) (i := 0) (v := .int .i64 1)
    have hE4 : Ext w0 (w3.setCell ⟨w1.heap.size + 1, 0, none⟩ (.int .i64 1)) := hcE.ext hE3 (by have := he1.size; omega)
    have hsz0 := he0.size
    have hsz1 := he1.size
    refine wp_name (fun w4 => Ext w w4 ∧ Blk w4 (w.heap.size + 1 + 1) (.cells #[.slice none 0 0] 30) ∧ Blk w4 (w.heap.size + 1 + 1 + 1) (.cells #[.int .i64 0] 31) ∧ Blk w4 (w1.heap.size + 1) (.cells #[.int .i64 1] 31) ∧ w.heap.size + 1 + 1 + 1 < w1.heap.size) ⟨he0.trans hE4, hE4.blk _ _ hb3, hE4.blk _ _ hb4, Blk.setCell he3, by have := Blk.lt hb4; omega⟩ ?_
    clear hE3 hcE hE4 he0 he1 hb1 hb2 hb3 hb4 ht3 hc3 he3 ce3 fe3 le3 hsz0 hsz1
    generalize w1.heap.size = tb at *
    rintro W ⟨hex, h1, h2, heb, htb⟩
    have ce : W.cell? ⟨tb + 1, 0, none⟩ = some (.int .i64 1) := Blk.val heb 0 _ rfl
    have d1 : W.cell? ⟨w.heap.size + 1 + 1, 0, none⟩ = some (.slice none 0 0) := Blk.val h1 0 _ rfl
    have d2 : W.cell? ⟨w.heap.size + 1 + 1 + 1, 0, none⟩ = some (.int .i64 0) := Blk.val h2 0 _ rfl
    have f1 : W.frozen? ⟨w.heap.size + 1 + 1, 0, none⟩ = false := Blk.free h1 0
    have f2 : W.frozen? ⟨w.heap.size + 1 + 1 + 1, 0, none⟩ = false := Blk.free h2 0
    have le := Blk.lt heb
    have l1 := Blk.lt h1
    have l2 := Blk.lt h2
    have hne2 : tb + 1 ≠ w.heap.size + 1 + 1 := by omega
    have HRs : Hid (RcAt (w.heap.size + 1 + 1) (.slice none 0 0) 0 W) := Lib.hid ⟨h1, h2⟩
    have Hex := Lib.hid hex
    clear hex heb h1 h2
    go_region
    all_goals
      go_wp2_with fail
      have hns := rc_set HRs.out (.slice none 0 0) 1
      exact postM_ret (results_bases _ _ _ _ _ _ rfl rfl (Blk.val ((Ext.drew _).blk _ _ hns.1.c1) 0 _ rfl) (Blk.val ((Ext.drew _).blk _ _ hns.1.c2) 0 _ rfl)) (HO.out _ _ ((hns.2.1 w Hex.out (by omega)).trans (Ext.drew _)) rfl)
end Go.Proofs.YtolmoknjmdmpgaaGreat
