/- The walk of package index's walk, with any yield. -/
import Derived.Test.YtolmoknjmdmpgaaGreatRG
import Derived.Test.YtolmoknjmdmpgaaGreatFI
import Derived.Test.YtolmoknjmdmpgaaGreatDF
set_option linter.unusedSimpArgs false
set_option linter.unusedVariables false
namespace Go.Proofs.YtolmoknjmdmpgaaGreat
open Go.RowKit Dsd
attribute [local go_sem] Oper.semAt_some
def encI (x : Int) : Array Value := #[.int .i64 x]
/-- What the walk may turn beside the yields: the error's variable. -/
def tWk (eb : Nat) : Nat → TypeId → Prop := fun b t => b = eb ∧ t = 31
/-- The types that the walk reads. -/
def tRdI (t : TypeId) : Prop := t = 70 ∨ t = 53 ∨ t = 75 ∨ t = 31
/-- What is known of the yields. -/
structure YLaw (l n0 eb B : Nat) (J Jx : List Int → World → Prop) (tB : Nat → TypeId → Prop) (R : List Int) : Prop where
  ty : ∀ b t, tRdI t → ¬ tB b t
  j : ∀ pre A A', Kc n0 (tWk eb) A A' → KeepsFrom B A A' → J pre A → J pre A'
  y : ∀ pre x W1, J pre W1 → pre ++ [x] <+: R → YieldAt Fence.wide 2 Tryz.prog l (encI x) W1 fun e W' => (e = .returned (.bool true) ∧ J (pre ++ [x]) W' ∧ Kc n0 tB W1 W') ∨ (e = .returned (.bool false) ∧ Jx (pre ++ [x]) W')
theorem YLaw.ext {l n0 eb B : Nat} {J Jx : List Int → World → Prop} {tB : Nat → TypeId → Prop} {R : List Int} (Y : YLaw l n0 eb B J Jx tB R) {pre : List Int} {A A' : World} (e : Ext A A') (hn : n0 ≤ A.heap.size) (h : J pre A) : J pre A' :=
  Y.j pre A A' (Kc.of_ext e hn) (KeepsFrom.of_ext e) h
/-- What the walk hands back. -/
def WkOut (n0 eb : Nat) (J Jx : List Int → World → Prop) (tB : Nat → TypeId → Prop) (R pre : List Int) (r : List Int × Int) (W : World) (e : Ending) (W' : World) : Prop :=
  (e = .returned (.bool true) ∧ r.2 = 0 ∧ Blk W' eb (.cells #[.int .i64 0] 31) ∧ J (pre ++ r.1) W' ∧ Kc n0 tB W W') ∨
  (e = .returned (.bool false) ∧ ((r.2 ≠ 0 ∧ Blk W' eb (.cells #[.int .i64 r.2] 31) ∧ J (pre ++ r.1) W') ∨ ∃ pre', pre' <+: R ∧ Jx pre' W'))
theorem own_kc {n0 : Nat} {tc : Nat → TypeId → Prop} {w w' : World} {base : Nat} {e : TypeId} {size : Nat} {v : Value} {n : Nat} {xs : List Value} (h : w.ownsRow base e size v n xs) (k : Kc n0 tc w w') (ht : ∀ b, ¬ tc b e) : w'.ownsRow base e size v n xs := by
  refine ⟨h.1, ?_⟩
  rcases h.2 with hn | ⟨b, cap, cur, rfl, hb, hg, rest⟩
  · exact .inl hn
  · exact .inr ⟨b, cap, cur, rfl, hb, k.blk hg (ht b), rest⟩
theorem entSize : (Tryz.prog.info? 75).map (·.size) = some 2 := by kernel_rfl
theorem walkGo_step {f : Int → List Int × Int} {E : List Ent} {k : Nat} (hk : k < E.length) : walkGo f (E.drop k) = if (f (entAt E k).2).2 ≠ 0 then f (entAt E k).2 else ((f (entAt E k).2).1 ++ (walkGo f (E.drop (k + 1))).1, (walkGo f (E.drop (k + 1))).2) := by
  have e : E.drop k = entAt E k :: E.drop (k + 1) := by
    rw [List.drop_eq_getElem_cons hk]
    simp [entAt, List.getD, hk]
  rw [e, walkGo]
set_option maxRecDepth 100000 in
set_option maxHeartbeats 4000000 in
theorem walk_any (p : Option Addr) (cap n : Nat) (m : List (List UInt8)) (h : Hd) (d : DS) (w0 : World) (hs : Strs w0 p m) (hn : m.length = n) (hm : Small m) (l eb B : Nat) (heb : w0.heap.size ≤ eb) (J Jx : List Int → World → Prop) (tB : Nat → TypeId → Prop) (R : List Int) (Y : YLaw l w0.heap.size eb B J Jx tB R) :
    ∀ (lv : Nat), lv ≤ 6 → ∀ (page : Int) (pre : List Int) (W : World), Ext w0 W → Blk W eb (.cells #[.int .i64 0] 31) → J pre W → pre ++ (walkD m d lv page).1 <+: R →
    Calls Tryz.prog 55 #[.agg (trC (.slice p n cap) h d), .int .i64 page, .int .i64 ((lv : Nat) : Int), .pointer (some ⟨eb, 0, none⟩), .func (.yield l) #[] #[]] W (WkOut w0.heap.size eb J Jx tB R pre (walkD m d lv page) W) := by
  intro lv
  induction lv with
  | zero =>
    intro _ page pre W hx he hj hpx
    have hx1 := Ext.alloc W (.cells (trC (.slice p n cap) h d) 70)
    have hYx := Y.y pre page _ (Y.ext hx1 hx.size hj) hpx
    have He1 := Lib.hid (hx1.blk _ _ he)
    have Hx1 := Lib.hid (Kc.of_ext (tc := tB) hx1 hx.size)
    have HY := Lib.hid Y
    have Hpx := Lib.hid hpx
    obtain ⟨fn, tmps, assign, body, hy, hR⟩ := hYx
    dsimp only [encI] at hy
    show Calls _ _ _ _ (WkOut w0.heap.size eb J Jx tB R pre ([page], 0) W)
    have HT : Hid (∀ e W', e = .returned (.bool true) → J (pre ++ [page]) W' → Kc w0.heap.size tB (W.alloc (.cells (trC (.slice p n cap) h d) 70)) W' → WkOut w0.heap.size eb J Jx tB R pre ([page], 0) W e W') := Lib.hid (fun e W' h1 h2 h3 => .inl ⟨h1, rfl, h3.blk He1.out (HY.out.ty _ _ (.inr (.inr (.inr rfl)))), h2, Hx1.out.trans h3⟩)
    have HF : Hid (∀ e W', e = .returned (.bool false) → Jx (pre ++ [page]) W' → WkOut w0.heap.size eb J Jx tB R pre ([page], 0) W e W') := Lib.hid (fun e W' h1 h2 => .inr ⟨h1, .inr ⟨_, Hpx.out, h2⟩⟩)
    clear hx he hj hpx hx1 hs
    generalize WkOut w0.heap.size eb J Jx tB R pre ([page], 0) W = OUT at *
    go_enter Tryz.func55, Tryz.ntmps55
    go_upto_region 2 with (fail)
    refine (wpIn_wide (n := 3)).1 ?_
    gi_wp2
    refine hR.mono ?_
    rintro e W' (⟨rfl, hj', hk'⟩ | ⟨rfl, hjx'⟩)
    · have HO := Lib.hid (HT.out _ W' rfl hj' hk')
      clear hj' hk' hy hR
      gi_wp2
      go_wp2_with fail
      exact HO.out
    · have HO := Lib.hid (HF.out _ W' rfl hjx')
      clear hjx' hy hR
      gi_wp2
      go_wp2_with fail
      exact HO.out
  | succ lv ih =>
    intro hl6 page pre W hx he hj hpx
    have hx1 := Ext.alloc W (.cells (trC (.slice p n cap) h d) 70)
    have hb1 := Blk.new W (.cells (trC (.slice p n cap) h d) 70)
    have hL := fun W' (e : Ext W W') => load22_any p cap n m h d page ((lv + 1 : Nat) : Int) W' (hs.ext (hx.trans e)) hn hm
    obtain ⟨T, hT⟩ : ∃ T, T = walkD m d (lv + 1) page := ⟨_, rfl⟩
    rw [← hT] at hpx ⊢
    rw [walkD] at hT
    have HIh := Lib.hid (fun pg pr W' => ih (by omega) pg pr W')
    have HY := Lib.hid Y
    have HQ := Lib.hid (And.intro hx (And.intro he (And.intro hj hpx)))
    obtain ⟨n1, hn1⟩ : ∃ n1, n1 = lv + 1 := ⟨_, rfl⟩
    rw [← hn1] at hL hT ⊢
    have hne : (((n1 : Nat) : Int) == 0) = false := by simp; omega
    have hnz : ¬ n1 = 0 := by omega
    have hw1 : IntKind.i64.wrap (((n1 : Nat) : Int) - 1) = ((lv : Nat) : Int) := by rw [IntWalk.i64_in _ (by omega)]; omega
    clear hn1 ih hx he hj hpx hs
    unfold Load22 at hL
    have HOut : Hid (∀ e W', WkOut w0.heap.size eb J Jx tB R pre T W e W' → WkOut w0.heap.size eb J Jx tB R pre T W e W') := Lib.hid (fun _ _ h => h)
    generalize hOU : WkOut w0.heap.size eb J Jx tB R pre T W = OUT at *
    by_cases hE : (loadD m d page ((n1 : Nat) : Int)).2 = 0
    · have hsp := (load_spec hE).1
      rw [if_neg (by rw [hE]; simp)] at hT
      have HL : Hid (∀ W', Ext W W' → Calls Tryz.prog 51 #[.agg (trC (.slice p n cap) h d), .int .i64 page, .int .i64 ((n1 : Nat) : Int)] W' fun e w' => Ext W' w' ∧ ∃ q c, e = .returned (.tuple #[.agg #[.int .i64 (loadD m d page ((n1 : Nat) : Int)).1.level, .int .i64 (loadD m d page ((n1 : Nat) : Int)).1.next, .slice q (loadD m d page ((n1 : Nat) : Int)).1.ents.length c], .int .i64 0]) ∧ w'.ownsRow 0 75 2 (.slice q (loadD m d page ((n1 : Nat) : Int)).1.ents.length c) (loadD m d page ((n1 : Nat) : Int)).1.ents.length (entCells (loadD m d page ((n1 : Nat) : Int)).1.ents)) := Lib.hid (fun W' e => by
        have := hL W' e
        rw [hE] at this
        exact this.mono (fun e' w' ⟨a1, q, c, a2, a3⟩ => ⟨a1, q, c, a2, own_le a3 (Nat.zero_le _)⟩))
      have hl120 := hsp.l2
      have HT := Lib.hid hT
      have HOU := Lib.hid hOU
      clear hE hsp hL hT HOut hOU
      generalize (loadD m d page ((n1 : Nat) : Int)).1 = nd at *
      go_enter Tryz.func55, Tryz.ntmps55
      go_upto_region 1 with (fail)
      refine wp_name (fun w1 => Ext W w1 ∧ Blk w1 W.heap.size (.cells (trC (.slice p n cap) h d) 70)) ⟨hx1, hb1⟩ ?_
      clear hx1 hb1
      rintro w1 ⟨hx1, hb1⟩
      go_upto_region 7 with (first
        | ((with_reducible (show wpList _ _ _ (⟨some 21, _, _, _, _, _⟩ :: _) _ _)); refine wpList_row (o := ⟨some 21, _, _, _, _, _⟩) rfl 70 (.tmp 5) rfl _ rfl _ _ _ hb1 trDesc rfl trSize ?_)
        | (go_at_call 51; refine (HL.out _ hx1).mono ?_; rintro e w2 ⟨he2, q1, c1, rfl, ho2⟩)
        | (refine wpList_put rfl 53 (.tmp 11) (.tmp 25) rfl _ #[.int .i64 nd.level, .int .i64 nd.next, .slice q1 nd.ents.length c1] rfl rfl _ _ (Blk.new w2 _) ndSize rfl (by simp [Value.oneCell']) ?_; intro w3 hn3 hc3; have hx3 := hc3.ext (Ext.alloc w2 _) (Nat.le_refl _)))
      have hX3 := (hx1.trans he2).trans hx3
      have c52 : w3.cell? ⟨w2.heap.size, 2, none⟩ = some (.slice q1 nd.ents.length c1) := Blk.val hn3 2 _ rfl
      have l52 := Blk.lt hn3
      have HR3 := Lib.hid (And.intro hX3 (And.intro ((hx3.blk _ _ (he2.blk _ _ hb1))) (own_chgT (own_ext ho2 (Ext.alloc w2 _)) (by decide) (Blk.new w2 _) hc3)))
      clear hx1 hb1 he2 ho2 hn3 hc3 hx3 hX3
      go_upto_region 8 with (fail)
      have hK3 : Kc w0.heap.size tB W w3 := Kc.of_ext HR3.out.1 HQ.out.1.size
      have hj3 := HY.out.ext HR3.out.1 HQ.out.1.size HQ.out.2.2.1
      go_loopw [35] (fun i wr => ∃ (k : Nat) (acc : List Int), k ≤ nd.ents.length ∧ i = .int .i64 k ∧ acc ++ (walkGo (walkD m d lv) (nd.ents.drop k)).1 = T.1 ∧ (walkGo (walkD m d lv) (nd.ents.drop k)).2 = T.2 ∧ Kc w0.heap.size tB W wr ∧ Blk wr eb (.cells #[.int .i64 0] 31) ∧ Blk wr W.heap.size (.cells (trC (.slice p n cap) h d) 70) ∧ wr.ownsRow 0 75 2 (.slice q1 nd.ents.length c1) nd.ents.length (entCells nd.ents) ∧ J (pre ++ acc) wr) (fun i _ => nd.ents.length - (intOf i).toNat)
      case atStart => exact ⟨0, [], Nat.zero_le _, rfl, by rw [HT.out]; rfl, by rw [HT.out]; rfl, hK3, HR3.out.1.blk _ _ HQ.out.2.1, HR3.out.2.1, HR3.out.2.2, by simpa using hj3⟩
      case round =>
        clear hK3 hj3 c52 l52
        obtain ⟨k, acc, hk, rfl, hA, hB, hK, he, hb, ho, hj⟩ := hrel
        by_cases hlt : k < nd.ents.length
        · have hltI : (k : Int) < nd.ents.length := by omega
          obtain ⟨g, rfl, hgl, hc0, hc1⟩ : ∃ g, q1 = some ⟨g, 0, none⟩ ∧ g < wr.heap.size ∧ wr.cell? ⟨g, k * 2, none⟩ = some (.string ⟨(entAt nd.ents k).1.toArray⟩) ∧ wr.cell? ⟨g, k * 2 + 1, none⟩ = some (.int .i64 (entAt nd.ents k).2) := by
            obtain ⟨g, off, hq, hgl, hcc⟩ := (own_cellsND ho).at k hlt
            obtain ⟨g', _, hq', _⟩ := own_parts ho (by omega)
            rw [hq'] at hq
            simp only [Option.some.injEq, Addr.mk.injEq, and_true] at hq
            obtain ⟨rfl, rfl⟩ := hq
            obtain ⟨a0, a1⟩ := hcc k hlt
            rw [Nat.zero_add] at a0 a1
            exact ⟨g', hq', hgl, a0, a1⟩
          rw [walkGo_step hlt] at hA hB
          have hpx : (pre ++ acc) ++ (walkD m d lv (entAt nd.ents k).2).1 <+: R := by
            refine List.IsPrefix.trans ?_ HQ.out.2.2.2
            rw [List.append_assoc, ← hA]
            refine (List.prefix_append_right_inj _).2 ((List.prefix_append_right_inj _).2 ?_)
            split
            · exact List.prefix_refl _
            · exact List.prefix_append _ _
          have HI : Hid (∀ W', Ext wr W' → Calls Tryz.prog 55 #[.agg (trC (.slice p n cap) h d), .int .i64 (entAt nd.ents k).2, .int .i64 ((lv : Nat) : Int), .pointer (some ⟨eb, 0, none⟩), .func (.yield l) #[] #[]] W' (WkOut w0.heap.size eb J Jx tB R (pre ++ acc) (walkD m d lv (entAt nd.ents k).2) W')) := Lib.hid (fun W' e => by
            have hxw : Ext w0 wr := Ext.trans' HQ.out.1 hK.below
            exact HIh.out _ (pre ++ acc) W' (hxw.trans e) (e.blk _ _ he) (HY.out.ext e hxw.size hj) hpx)
          have HS := Lib.hid (And.intro hK (And.intro he (And.intro hb ho)))
          have HA := Lib.hid hA
          have HB := Lib.hid hB
          have hlb := Blk.lt hb
          clear hA hB hK he ho hj hpx
          generalize (entAt nd.ents k).1 = s at *
          generalize (entAt nd.ents k).2 = pgx at *
          generalize walkD m d lv pgx = r at *
          go_upto_region 10 with (refine wpList_put rfl 75 (.tmp 14) (.tmp 38) rfl _ #[.string ⟨s.toArray⟩, .int .i64 pgx] rfl rfl _ _ (Blk.new wr _) entSize rfl (by simp [Value.oneCell']) ?_; intro w4 hn4 hc4)
          have hx4 := hc4.ext (Ext.alloc wr _) (Nat.le_refl _)
          have HI4 := HI.out w4 hx4
          unfold WkOut at HI4
          have HI4 := Lib.hid HI4
          have hb4 := hx4.blk _ _ HS.out.2.2.1
          have cx : w4.cell? ⟨wr.heap.size, 1, none⟩ = some (.int .i64 pgx) := Blk.val hn4 1 _ rfl
          have lx := Blk.lt hn4
          have hK4 : Kc w0.heap.size tB wr w4 := Kc.of_ext hx4 (Ext.trans' HQ.out.1 HS.out.1.below).size
          have HK4 := Lib.hid (HS.out.1.trans hK4)
          have Ho4 := Lib.hid (own_ext HS.out.2.2.2 hx4)
          have Hb4 := Lib.hid hb4
          clear hc4 hx4 hK4 hn4 hgl hc0 hc1 hlb HI
          go_wp2_with (first
            | ((with_reducible (show wpList _ _ _ (⟨some 39, _, _, _, _, _⟩ :: _) _ _)); refine wpList_row (o := ⟨some 39, _, _, _, _, _⟩) rfl 70 (.tmp 5) rfl _ rfl _ _ _ Hb4.out trDesc rfl trSize ?_)
            | (go_at_call 55; refine HI4.out.mono ?_; rintro e W' (⟨rfl, h1, h2, h3, h4⟩ | ⟨rfl, h5⟩)))
          · have e1 : acc ++ r.1 ++ (walkGo (walkD m d lv) (nd.ents.drop (k + 1))).1 = T.1 := by
              have := HA.out
              rw [if_neg (by rw [h1]; simp)] at this
              rw [List.append_assoc]; exact this
            have e2 : (walkGo (walkD m d lv) (nd.ents.drop (k + 1))).2 = T.2 := by
              have := HB.out
              rw [if_neg (by rw [h1]; simp)] at this
              exact this
            refine ⟨⟨k + 1, acc ++ r.1, by omega, by go_num, e1, e2, HK4.out.trans h4, h2, h4.blk Hb4.out (HY.out.ty _ _ (.inl rfl)), own_kc Ho4.out h4 (fun b => HY.out.ty b _ (.inr (.inr (.inl rfl)))), by rw [← List.append_assoc]; exact h3⟩, ?_⟩
            simp [intOf]; omega
          · rw [← HOU.out]
            refine .inr ⟨rfl, ?_⟩
            rcases h5 with ⟨a1, a2, a3⟩ | h5
            · have e1 : acc ++ r.1 = T.1 := by
                have := HA.out
                rw [if_pos a1] at this
                exact this
              have e2 : r.2 = T.2 := by
                have := HB.out
                rw [if_pos a1] at this
                exact this
              exact .inl ⟨by rw [← e2]; exact a1, by rw [← e2]; exact a2, by rw [← e1, ← List.append_assoc]; exact a3⟩
            · exact .inr h5
        · have hltI : decide ((k : Int) < nd.ents.length) = false := decide_eq_false (by omega)
          have hltN : ¬ k < nd.ents.length := hlt
          rw [List.drop_eq_nil_of_le (by omega)] at hA hB
          have HO : Hid (OUT (.returned (.bool true)) wr) := Lib.hid (by
            rw [← HOU.out]
            refine .inl ⟨rfl, hB.symm, he, ?_, hK⟩
            rw [← hA]
            simpa [walkGo] using hj)
          clear hA hB hK he hb ho hj hlt
          go_wp2_with fail
          exact HO.out
    · have hei : ((loadD m d page ((n1 : Nat) : Int)).2 != 0) = true := by simpa using hE
      rw [if_pos hE] at hT
      have HO : Hid (∀ W', Ext W W' → Blk W' eb (.cells #[.int .i64 0] 31) → OUT (.returned (.bool false)) (W'.setCell ⟨eb, 0, none⟩ (.int .i64 (loadD m d page ((n1 : Nat) : Int)).2))) := Lib.hid (fun W' e hb => by
        rw [← hOU, hT]
        refine .inr ⟨rfl, .inl ⟨hE, Blk.setCell hb, ?_⟩⟩
        refine HY.out.j _ W' _ (Kc.of_chg Chg.setCell heb hb ⟨rfl, rfl⟩) (KeepsFrom.of_chg Chg.setCell hb) ?_
        simpa using HY.out.ext e HQ.out.1.size HQ.out.2.2.1)
      have HL := Lib.hid hL
      clear hE hL hT HOut hOU
      generalize (loadD m d page ((n1 : Nat) : Int)).2 = er at *
      generalize (loadD m d page ((n1 : Nat) : Int)).1 = nd at *
      go_enter Tryz.func55, Tryz.ntmps55
      go_upto_region 1 with (fail)
      refine wp_name (fun w1 => Ext W w1 ∧ Blk w1 W.heap.size (.cells (trC (.slice p n cap) h d) 70)) ⟨hx1, hb1⟩ ?_
      clear hx1 hb1
      rintro w1 ⟨hx1, hb1⟩
      go_upto_region 5 with (first
        | ((with_reducible (show wpList _ _ _ (⟨some 21, _, _, _, _, _⟩ :: _) _ _)); refine wpList_row (o := ⟨some 21, _, _, _, _, _⟩) rfl 70 (.tmp 5) rfl _ rfl _ _ _ hb1 trDesc rfl trSize ?_)
        | (go_at_call 51; refine (HL.out _ hx1).mono ?_; rintro e w2 ⟨he2, q1, c1, rfl, ho2⟩)
        | (refine wpList_put rfl 53 (.tmp 11) (.tmp 25) rfl _ #[.int .i64 nd.level, .int .i64 nd.next, .slice q1 nd.ents.length c1] rfl rfl _ _ (Blk.new w2 _) ndSize rfl (by simp [Value.oneCell']) ?_; intro w3 hn3 hc3; have hx3 := hc3.ext (Ext.alloc w2 _) (Nat.le_refl _)))
      have hX3 := (hx1.trans he2).trans hx3
      have hb3 := hX3.blk _ _ HQ.out.2.1
      have ce : w3.cell? ⟨eb, 0, none⟩ = some (.int .i64 0) := Blk.val hb3 0 _ rfl
      have fe := Blk.free hb3 0
      have le := Blk.lt hb3
      have HO3 := Lib.hid (HO.out w3 hX3 hb3)
      clear hX3 hb3 hx1 hb1 he2 ho2 hn3 hc3 hx3
      go_wp2_with fail
      exact HO3.out
end Go.Proofs.YtolmoknjmdmpgaaGreat
/- The walks of package index's bases: the iterator. -/
namespace Go.Proofs.YtolmoknjmdmpgaaGreat
open Go.RowKit Dsd
/-- The variables of the iterator. -/
structure BsAt (g0 g1 g2 g3 eb : Nat) (q : Value) (h : Hd) (d : DS) (root lv : Int) (w : World) : Prop where
  tr : Blk w g0 (.cells (trC q h d) 70)
  pg : Blk w g1 (.cells #[.int .i64 root] 3)
  lv : Blk w g2 (.cells #[.int .i64 lv] 3)
  pt : Blk w g3 (.cells #[.pointer (some ⟨eb, 0, none⟩)] 83)
  er : Blk w eb (.cells #[.int .i64 0] 31)
theorem BsAt.ext {g0 g1 g2 g3 eb : Nat} {q : Value} {h : Hd} {d : DS} {root lv : Int} {w w' : World} (i : BsAt g0 g1 g2 g3 eb q h d root lv w) (e : Ext w w') : BsAt g0 g1 g2 g3 eb q h d root lv w' := ⟨e.blk _ _ i.tr, e.blk _ _ i.pg, e.blk _ _ i.lv, e.blk _ _ i.pt, e.blk _ _ i.er⟩
set_option maxRecDepth 100000 in
theorem bases_any (q : Value) (h : Hd) (d : DS) (root lv : Int) (eb : Nat) (w : World) (he : Blk w eb (.cells #[.int .i64 0] 31)) :
    Calls Tryz.prog 33 #[.agg (trC q h d), .int .i64 root, .int .i64 lv, .pointer (some ⟨eb, 0, none⟩)] w fun e w' => Ext w w' ∧ ∃ g0 g1 g2 g3, e = .returned (.func (.func 54) #[] #[.pointer (some ⟨g0, 0, none⟩), .pointer (some ⟨g1, 0, none⟩), .pointer (some ⟨g2, 0, none⟩), .pointer (some ⟨g3, 0, none⟩)]) ∧ BsAt g0 g1 g2 g3 eb q h d root lv w' := by
  have k0 := Blk.new w (.cells (trC q h d) 70)
  have x0 := Ext.alloc w (.cells (trC q h d) 70)
  have k1 := Blk.new (w.alloc (.cells (trC q h d) 70)) (.cells #[.int .i64 root] 3)
  have x1 := Ext.alloc (w.alloc (.cells (trC q h d) 70)) (.cells #[.int .i64 root] 3)
  have k2 := Blk.new ((w.alloc (.cells (trC q h d) 70)).alloc (.cells #[.int .i64 root] 3)) (.cells #[.int .i64 lv] 3)
  have x2 := Ext.alloc ((w.alloc (.cells (trC q h d) 70)).alloc (.cells #[.int .i64 root] 3)) (.cells #[.int .i64 lv] 3)
  have k3 := Blk.new (((w.alloc (.cells (trC q h d) 70)).alloc (.cells #[.int .i64 root] 3)).alloc (.cells #[.int .i64 lv] 3)) (.cells #[.pointer (some ⟨eb, 0, none⟩)] 83)
  have x3 := Ext.alloc (((w.alloc (.cells (trC q h d) 70)).alloc (.cells #[.int .i64 root] 3)).alloc (.cells #[.int .i64 lv] 3)) (.cells #[.pointer (some ⟨eb, 0, none⟩)] 83)
  have HB : Hid (BsAt w.heap.size (w.heap.size + 1) (w.heap.size + 1 + 1) (w.heap.size + 1 + 1 + 1) eb q h d root lv ((((w.alloc (.cells (trC q h d) 70)).alloc (.cells #[.int .i64 root] 3)).alloc (.cells #[.int .i64 lv] 3)).alloc (.cells #[.pointer (some ⟨eb, 0, none⟩)] 83))) := Lib.hid (by
    simp only [World.size_alloc] at k1 k2 k3
    exact ⟨x3.blk _ _ (x2.blk _ _ (x1.blk _ _ k0)), x3.blk _ _ (x2.blk _ _ k1), x3.blk _ _ k2, k3, x3.blk _ _ (x2.blk _ _ (x1.blk _ _ (x0.blk _ _ he)))⟩)
  have HX := Lib.hid (((x0.trans x1).trans x2).trans x3)
  clear k0 k1 k2 k3 x0 x1 x2 x3 he
  go_enter Tryz.func33, Tryz.ntmps33
  go_wp2
  go_ret
  exact ⟨HX.out, _, _, _, _, rfl, HB.out⟩
set_option maxRecDepth 100000 in
set_option maxHeartbeats 1000000 in
theorem bases_iter (p : Option Addr) (cap n : Nat) (m : List (List UInt8)) (h : Hd) (d : DS) (root : Int) (H : Nat) (g0 g1 g2 g3 eb : Nat) (w0 w : World) (hs : Strs w0 p m) (hn : m.length = n) (hm : Small m) (hH : H ≤ 6) (he : Ext w0 w) (heb : w0.heap.size ≤ eb)
    (hi : BsAt g0 g1 g2 g3 eb (.slice p n cap) h d root ((H : Nat) : Int) w) (tB : Nat → TypeId → Prop) (hB : ∀ b t, tRdI t → ¬ tB b t) :
    IterAt Tryz.prog 54 #[.pointer (some ⟨g0, 0, none⟩), .pointer (some ⟨g1, 0, none⟩), .pointer (some ⟨g2, 0, none⟩), .pointer (some ⟨g3, 0, none⟩)] encI w0.heap.size (tWk eb) tB (fun xs W' => xs = (walkD m d H root).1 ∧ Blk W' eb (.cells #[.int .i64 (walkD m d H root).2] 31)) (fun pre _ => pre <+: (walkD m d H root).1) (fun pre x => pre ++ [x] <+: (walkD m d H root).1) w := by
  intro l J Jx W hx hJ hJx hY h0
  have i2 := hi.ext hx
  have HW := walk_any p cap n m h d w0 hs hn hm l eb w.heap.size heb J Jx tB (walkD m d H root).1 ⟨hB, hJ, hY⟩ H hH root [] W (he.trans hx) i2.er h0 (by simp)
  have HWk : Hid (Calls Tryz.prog 55 #[.agg (trC (.slice p n cap) h d), .int .i64 root, .int .i64 ((H : Nat) : Int), .pointer (some ⟨eb, 0, none⟩), .func (.yield l) #[] #[]] W fun e W' => ∃ v, e = .returned (.bool v) ∧ ((Blk W' eb (.cells #[.int .i64 (walkD m d H root).2] 31) ∧ J (walkD m d H root).1 W') ∨ ∃ pre', pre' <+: (walkD m d H root).1 ∧ Jx pre' W')) := Lib.hid (HW.mono (by
    rintro e W' (⟨rfl, a1, a2, a3, _⟩ | ⟨rfl, ⟨a1, a2, a3⟩ | a4⟩)
    · exact ⟨true, rfl, .inl ⟨by rw [a1]; exact a2, by simpa using a3⟩⟩
    · exact ⟨false, rfl, .inl ⟨a2, by simpa using a3⟩⟩
    · exact ⟨false, rfl, .inr a4⟩))
  generalize walkD m d H root = r at *
  have ht := i2.tr
  have c1 : W.cell? ⟨g1, 0, none⟩ = some (.int .i64 root) := Blk.val i2.pg 0 _ rfl
  have c2 : W.cell? ⟨g2, 0, none⟩ = some (.int .i64 ((H : Nat) : Int)) := Blk.val i2.lv 0 _ rfl
  have c3 : W.cell? ⟨g3, 0, none⟩ = some (.pointer (some ⟨eb, 0, none⟩)) := Blk.val i2.pt 0 _ rfl
  have l1 := Blk.lt i2.pg
  have l2 := Blk.lt i2.lv
  have l3 := Blk.lt i2.pt
  clear hs hn hm hJ hJx hY hB hi h0 HW i2
  show Calls Tryz.prog 54 #[.func (.yield l) #[] #[], .pointer (some ⟨g0, 0, none⟩), .pointer (some ⟨g1, 0, none⟩), .pointer (some ⟨g2, 0, none⟩), .pointer (some ⟨g3, 0, none⟩)] W _
  go_enter Tryz.func54, Tryz.ntmps54
  go_wp2_with (first
    | ((with_reducible (show wpList _ _ _ (⟨some 6, _, _, _, _, _⟩ :: _) _ _)); refine wpList_row (o := ⟨some 6, _, _, _, _, _⟩) rfl 70 (.tmp 1) rfl _ rfl _ _ _ ht trDesc rfl trSize ?_)
    | (go_at_call 55; refine HWk.out.mono ?_; rintro e W' ⟨v, rfl, hw⟩; have Hw := Lib.hid hw; clear hw))
  go_end0
  refine ⟨⟨_, rfl⟩, ?_⟩
  rcases Hw.out with ⟨a1, a2⟩ | ⟨pre', a1, a2⟩
  · exact .inl ⟨_, ⟨rfl, a1⟩, a2⟩
  · exact .inr ⟨pre', a1, a2⟩
end Go.Proofs.YtolmoknjmdmpgaaGreat
