/- The walks of the law's step, and of Small (operations). -/
import Derived.Test.YtjgdhlpnpihkdaaDoorR17
import Derived.Test.YtjgdhlpnpihkdaaDoorP19e
set_option linter.unusedSimpArgs false
set_option linter.unusedVariables false
namespace Go.Proofs.YtjgdhlpnpihkdaaDoor
open Go.RowKit Dsd

theorem opDesc : Tryd.prog.underlying 78 = some (.struct (Tryd.prog.fieldsOf 78)) := by kernel_rfl
theorem opSize : (Tryd.prog.info? 78).map (·.size) = some 2 := by kernel_rfl
theorem hd_ds_op (w : World) (h : Hd) (d : DS) (cs ds : Array Value) (t u : TypeId) :
    Ext w ((((w.alloc (.cells #[.int .i64 h.applied, .int .i64 h.count, .int .i64 h.fin, .int .i64 h.root, .int .i64 h.height, .int .i64 h.splits, .int .i64 h.areas] 24)).alloc (.cells #[.int .i64 d.id, .int .i64 d.org, .int .i64 d.format, .int .i64 d.length, .int .i64 d.block, .int .i64 d.keyAt, .int .i64 d.keyLength, .int .i64 d.interval, .int .i64 d.area, .int .i64 d.freeInterval, .int .i64 d.freeArea, .int .i64 d.base, .int .i64 d.altAt, .int .i64 d.altLength, .bool d.unique, .int .i64 d.cls, .string ⟨d.volume.toArray⟩, .string ⟨d.owner.toArray⟩, .int .i64 d.created, .int .i64 d.expires, .bool d.archived] 26)).alloc (.cells cs t)).alloc (.cells ds u)) ∧
    HdAt ((((w.alloc (.cells #[.int .i64 h.applied, .int .i64 h.count, .int .i64 h.fin, .int .i64 h.root, .int .i64 h.height, .int .i64 h.splits, .int .i64 h.areas] 24)).alloc (.cells #[.int .i64 d.id, .int .i64 d.org, .int .i64 d.format, .int .i64 d.length, .int .i64 d.block, .int .i64 d.keyAt, .int .i64 d.keyLength, .int .i64 d.interval, .int .i64 d.area, .int .i64 d.freeInterval, .int .i64 d.freeArea, .int .i64 d.base, .int .i64 d.altAt, .int .i64 d.altLength, .bool d.unique, .int .i64 d.cls, .string ⟨d.volume.toArray⟩, .string ⟨d.owner.toArray⟩, .int .i64 d.created, .int .i64 d.expires, .bool d.archived] 26)).alloc (.cells cs t)).alloc (.cells ds u)) w.heap.size h ∧
    DsAt ((((w.alloc (.cells #[.int .i64 h.applied, .int .i64 h.count, .int .i64 h.fin, .int .i64 h.root, .int .i64 h.height, .int .i64 h.splits, .int .i64 h.areas] 24)).alloc (.cells #[.int .i64 d.id, .int .i64 d.org, .int .i64 d.format, .int .i64 d.length, .int .i64 d.block, .int .i64 d.keyAt, .int .i64 d.keyLength, .int .i64 d.interval, .int .i64 d.area, .int .i64 d.freeInterval, .int .i64 d.freeArea, .int .i64 d.base, .int .i64 d.altAt, .int .i64 d.altLength, .bool d.unique, .int .i64 d.cls, .string ⟨d.volume.toArray⟩, .string ⟨d.owner.toArray⟩, .int .i64 d.created, .int .i64 d.expires, .bool d.archived] 26)).alloc (.cells cs t)).alloc (.cells ds u)) (w.heap.size + 1) d ∧
    Blk ((((w.alloc (.cells #[.int .i64 h.applied, .int .i64 h.count, .int .i64 h.fin, .int .i64 h.root, .int .i64 h.height, .int .i64 h.splits, .int .i64 h.areas] 24)).alloc (.cells #[.int .i64 d.id, .int .i64 d.org, .int .i64 d.format, .int .i64 d.length, .int .i64 d.block, .int .i64 d.keyAt, .int .i64 d.keyLength, .int .i64 d.interval, .int .i64 d.area, .int .i64 d.freeInterval, .int .i64 d.freeArea, .int .i64 d.base, .int .i64 d.altAt, .int .i64 d.altLength, .bool d.unique, .int .i64 d.cls, .string ⟨d.volume.toArray⟩, .string ⟨d.owner.toArray⟩, .int .i64 d.created, .int .i64 d.expires, .bool d.archived] 26)).alloc (.cells cs t)).alloc (.cells ds u)) (w.heap.size + 1 + 1) (.cells cs t) ∧
    Blk ((((w.alloc (.cells #[.int .i64 h.applied, .int .i64 h.count, .int .i64 h.fin, .int .i64 h.root, .int .i64 h.height, .int .i64 h.splits, .int .i64 h.areas] 24)).alloc (.cells #[.int .i64 d.id, .int .i64 d.org, .int .i64 d.format, .int .i64 d.length, .int .i64 d.block, .int .i64 d.keyAt, .int .i64 d.keyLength, .int .i64 d.interval, .int .i64 d.area, .int .i64 d.freeInterval, .int .i64 d.freeArea, .int .i64 d.base, .int .i64 d.altAt, .int .i64 d.altLength, .bool d.unique, .int .i64 d.cls, .string ⟨d.volume.toArray⟩, .string ⟨d.owner.toArray⟩, .int .i64 d.created, .int .i64 d.expires, .bool d.archived] 26)).alloc (.cells cs t)).alloc (.cells ds u)) (w.heap.size + 1 + 1 + 1) (.cells ds u) := by
  obtain ⟨h1, h2, h3, h4⟩ := hd_ds_cl w h d cs t
  exact ⟨h1.trans (Ext.alloc _ _), h2.alloc _, h3.alloc _, h4.alloc _, Blk.new1 _ _ _ (by simp)⟩

set_option maxRecDepth 100000 in
set_option maxHeartbeats 2000000 in
theorem step_any (p : Option Addr) (cap n : Nat) (m : List (List UInt8)) (h : Hd) (d : DS) (slot : Int) (r : List UInt8) (w : World) (hs : Strs w p m) (hn : m.length = n) (hm : Small m) (hrl : r.length ≤ 1000000) :
    Calls Tryd.prog 38 #[mV p n cap, .agg #[.int .i64 h.applied, .int .i64 h.count, .int .i64 h.fin, .int .i64 h.root, .int .i64 h.height, .int .i64 h.splits, .int .i64 h.areas], .agg #[.int .i64 d.id, .int .i64 d.org, .int .i64 d.format, .int .i64 d.length, .int .i64 d.block, .int .i64 d.keyAt, .int .i64 d.keyLength, .int .i64 d.interval, .int .i64 d.area, .int .i64 d.freeInterval, .int .i64 d.freeArea, .int .i64 d.base, .int .i64 d.altAt, .int .i64 d.altLength, .bool d.unique, .int .i64 d.cls, .string ⟨d.volume.toArray⟩, .string ⟨d.owner.toArray⟩, .int .i64 d.created, .int .i64 d.expires, .bool d.archived], .agg #[.int .i64 slot, .string ⟨r.toArray⟩]] w (RelOut (stepR m h d slot r) w) := by
  have Hs := Lib.hid hs
  have HP := Lib.hid (fun w' (e : Ext w w') => (rput_any p cap n m h d slot r w' (Hs.out.ext e) hn hm hrl))
  have HE := Lib.hid (fun w' (e : Ext w w') => (rerase_any p cap n m h d slot w' (Hs.out.ext e) hn hm))
  by_cases hr : r = []
  · have HS : Hid (stepR m h d slot r = eraseR m h d slot) := Lib.hid (by unfold stepR; rw [if_pos hr])
    rw [HS.out]
    subst hr
    clear hs HS HP
    generalize eraseR m h d slot = R at *
    obtain ⟨G, W, c⟩ := R
    go_enter Tryd.func38, Tryd.ntmps38
    go_upto_region 1 with (fail)
    refine wp_name (fun w0 => Ext w w0 ∧ HdAt w0 w.heap.size h ∧ DsAt w0 (w.heap.size + 1) d ∧ Blk w0 (w.heap.size + 1 + 1) (.cells #[.int .i64 slot, .string ⟨#[]⟩] 78) ∧ Blk w0 (w.heap.size + 1 + 1 + 1) (.cells #[.int .i64 0, .int .i64 0, .int .i64 0, .int .i64 0, .int .i64 0, .int .i64 0, .int .i64 0] 24)) (hd_ds_op w h d _ _ _ _) ?_
    rintro w0 ⟨he0, hb1, hb2, hbo, hbr⟩
    have c0 : w0.cell? ⟨w.heap.size + 1 + 1, 0, none⟩ = some (.int .i64 slot) := Blk.val hbo 0 _ rfl
    have c1 : w0.cell? ⟨w.heap.size + 1 + 1, 1, none⟩ = some (.string ⟨#[]⟩) := Blk.val hbo 1 _ rfl
    go_wp2_with (first
      | (refine wpList_ds rfl (.tmp 6) rfl _ rfl d hb2 ?_) | (refine wpList_hd rfl (.tmp 5) rfl _ rfl h hb1 ?_)
      | (go_at_call 41; refine (HE.out _ he0).mono ?_; rintro e w3 h3; obtain ⟨q3, c3, rfl, he3, hw3⟩ := relOut_val rfl h3; clear h3; have hbr3 := he3.blk _ _ hbr)
      | (refine wpList_put rfl 24 (.tmp 8) (.tmp 20) rfl _ #[.int .i64 G.applied, .int .i64 G.count, .int .i64 G.fin, .int .i64 G.root, .int .i64 G.height, .int .i64 G.splits, .int .i64 G.areas] rfl rfl _ _ hbr3 hdSize rfl (hd_one G) ?_; intro w4 hb4 hc4))
    exact bodyPost_ret (results_row2 Tryd.results38 _ _ _ _ _ _ rfl hb4 hdDesc rfl hdSize) rfl ⟨hc4.ext (he0.trans he3) (by omega), q3, _, c3, rfl, rfl, hw3.tchg (B := 0) (t := 24) (by decide) ⟨_, _, Nat.zero_le _, hbr3, hc4⟩⟩
  · have HS : Hid (stepR m h d slot r = putR m h d slot r) := Lib.hid (by unfold stepR; rw [if_neg hr])
    rw [HS.out]
    have hrI : (r == []) = false := by simpa using hr
    clear hs HS HE
    generalize putR m h d slot r = R at *
    obtain ⟨G, W, c⟩ := R
    go_enter Tryd.func38, Tryd.ntmps38
    go_upto_region 1 with (fail)
    refine wp_name (fun w0 => Ext w w0 ∧ HdAt w0 w.heap.size h ∧ DsAt w0 (w.heap.size + 1) d ∧ Blk w0 (w.heap.size + 1 + 1) (.cells #[.int .i64 slot, .string ⟨r.toArray⟩] 78) ∧ Blk w0 (w.heap.size + 1 + 1 + 1) (.cells #[.int .i64 0, .int .i64 0, .int .i64 0, .int .i64 0, .int .i64 0, .int .i64 0, .int .i64 0] 24)) (hd_ds_op w h d _ _ _ _) ?_
    rintro w0 ⟨he0, hb1, hb2, hbo, hbr⟩
    have c0 : w0.cell? ⟨w.heap.size + 1 + 1, 0, none⟩ = some (.int .i64 slot) := Blk.val hbo 0 _ rfl
    have c1 : w0.cell? ⟨w.heap.size + 1 + 1, 1, none⟩ = some (.string ⟨r.toArray⟩) := Blk.val hbo 1 _ rfl
    go_wp2_with (first
      | (refine wpList_ds rfl (.tmp 6) rfl _ rfl d hb2 ?_) | (refine wpList_hd rfl (.tmp 5) rfl _ rfl h hb1 ?_)
      | (go_at_call 36; refine (HP.out _ he0).mono ?_; rintro e w3 h3; obtain ⟨q3, c3, rfl, he3, hw3⟩ := relOut_val rfl h3; clear h3; have hbr3 := he3.blk _ _ hbr)
      | (refine wpList_put rfl 24 (.tmp 8) (.tmp 31) rfl _ #[.int .i64 G.applied, .int .i64 G.count, .int .i64 G.fin, .int .i64 G.root, .int .i64 G.height, .int .i64 G.splits, .int .i64 G.areas] rfl rfl _ _ hbr3 hdSize rfl (hd_one G) ?_; intro w4 hb4 hc4))
    exact bodyPost_ret (results_row2 Tryd.results38 _ _ _ _ _ _ rfl hb4 hdDesc rfl hdSize) rfl ⟨hc4.ext (he0.trans he3) (by omega), q3, _, c3, rfl, rfl, hw3.tchg (B := 0) (t := 24) (by decide) ⟨_, _, Nat.zero_le _, hbr3, hc4⟩⟩

/-- A slice of operations that is read. -/
def Opsl (w : World) (p : Option Addr) (L : List (Int × List UInt8)) : Prop :=
  L = [] ∨ ∃ b off, p = some ⟨b, off, none⟩ ∧ b < w.heap.size ∧ ∀ i, i < L.length → w.cell? ⟨b, off + i * 2, none⟩ = some (.int .i64 (L.getD i (0, [])).1) ∧ w.cell? ⟨b, off + i * 2 + 1, none⟩ = some (.string ⟨(L.getD i (0, [])).2.toArray⟩)
theorem Opsl.ext {w w' : World} {p : Option Addr} {L : List (Int × List UInt8)} (h : Opsl w p L) (e : Ext w w') : Opsl w' p L := by
  rcases h with h | ⟨b, off, hp, hb, hc⟩
  · exact .inl h
  · exact .inr ⟨b, off, hp, Nat.lt_of_lt_of_le hb e.size, fun i hi => ⟨(e.cell b _ hb).trans (hc i hi).1, (e.cell b _ hb).trans (hc i hi).2⟩⟩
theorem Opsl.at {w : World} {p : Option Addr} {L : List (Int × List UInt8)} (h : Opsl w p L) (k : Nat) (hk : k < L.length) :
    ∃ b off, p = some ⟨b, off, none⟩ ∧ b < w.heap.size ∧ ∀ i, i < L.length → w.cell? ⟨b, off + i * 2, none⟩ = some (.int .i64 (L.getD i (0, [])).1) ∧ w.cell? ⟨b, off + i * 2 + 1, none⟩ = some (.string ⟨(L.getD i (0, [])).2.toArray⟩) := by
  rcases h with h | h
  · subst h; simp at hk
  · exact h
/-- Are operations few, and their records short? -/
def fewB (L : List (Int × List UInt8)) (most : Nat) : Bool := L.all (fun x => decide (x.2.length ≤ 300)) && decide (L.length ≤ most)
theorem fewB_at {L : List (Int × List UInt8)} {most : Nat} (h : fewB L most = true) : L.length ≤ most ∧ ∀ i, (L.getD i (0, [])).2.length ≤ 300 := by
  unfold fewB at h
  simp at h
  refine ⟨h.2, fun i => ?_⟩
  by_cases hi : i < L.length
  · have e : L.getD i (0, []) = L[i] := by simp [List.getD, hi]
    rw [e]
    exact h.1 _ _ (List.getElem_mem hi)
  · simp [List.getD, List.getElem?_eq_none (Nat.le_of_not_lt hi)]

set_option maxRecDepth 100000 in
theorem SmallOps_any (p : Option Addr) (cap n : Nat) (L : List (Int × List UInt8)) (most : Nat) (w : World) (hs : Opsl w p L) (hn : L.length = n) (hL : n ≤ maxLen) (hmax : ∀ i, (L.getD i (0, [])).2.length ≤ maxLen) :
    Calls Tryd.prog 37 #[.slice p n cap, .int .i64 most] w fun e w' => e = .returned (.bool (fewB L most)) ∧ w = w' := by
  subst hn
  unfold maxLen at hL
  go_enter Tryd.func37, Tryd.ntmps37
  go_wp2
  obtain ⟨wo, rfl⟩ : ∃ wo : World, wo = w := ⟨_, rfl⟩
  go_loopw [5] (fun i wr => ∃ k : Nat, k ≤ L.length ∧ i = .int .i64 k ∧ ((L.take k).all fun x => decide (x.2.length ≤ 300)) = true ∧ wr = wo) (fun i _ => L.length - (intOf i).toNat)
  case atStart => exact ⟨0, Nat.zero_le _, rfl, rfl, rfl⟩
  case round =>
    obtain ⟨k, hk, rfl, hq, rfl⟩ := hrel
    have Hq := Lib.hid hq
    clear hq
    by_cases hlt : k < L.length
    · have hltI : (k : Int) < L.length := by omega
      obtain ⟨b, off, rfl, hb, hc⟩ := hs.at k hlt
      have hck := (hc k hlt).2
      have hmx := hmax k
      unfold maxLen at hmx
      have hG : L.getD k (0, []) = L[k] := by simp [List.getD, hlt]
      have HT : Hid (∀ s, (L.getD k (0, [])).2 = s → decide (s.length ≤ 300) = true → ((L.take (k + 1)).all fun x => decide (x.2.length ≤ 300)) = true) := Lib.hid (fun s hs h => by
        rw [List.take_succ_eq_append_getElem hlt, List.all_append, Hq.out]
        rw [hG] at hs
        simp [hs]; simpa using h)
      have HA : Hid (∀ s, (L.getD k (0, [])).2 = s → decide (s.length ≤ 300) = false → fewB L most = false) := Lib.hid (fun s hs h => by
        unfold fewB
        rw [Bool.and_eq_false_iff]; left
        rw [List.all_eq_false]
        exact ⟨L[k], List.getElem_mem hlt, by rw [hG] at hs; rw [hs, h]; simp⟩)
      clear hc hG
      generalize hx : (L.getD k (0, [])).2 = x at *
      by_cases hl : 300 < x.length
      · have hlI : decide ((300 : Int) < x.length) = true := decide_eq_true (by omega)
        have hlN : decide (300 < x.length) = true := decide_eq_true hl
        have HB := Lib.hid (HA.out x rfl (decide_eq_false (by omega)))
        clear HT HA
        go_wp2
        go_ret
        exact ⟨by rw [HB.out]; rfl, rfl⟩
      · have hlI : decide ((300 : Int) < x.length) = false := decide_eq_false (by omega)
        have hlN : decide (300 < x.length) = false := decide_eq_false hl
        have HB := Lib.hid (HT.out x rfl (decide_eq_true (by omega)))
        clear HT HA
        go_wp2
        go_roundw
        case rel => exact ⟨k + 1, by omega, by go_num, HB.out, by first | trivial | rfl⟩
        case measure => simp [intOf]; omega
    · have hltI : decide ((k : Int) < L.length) = false := decide_eq_false (by omega)
      obtain rfl : k = L.length := by omega
      have HF : Hid (fewB L most = decide (L.length ≤ most)) := Lib.hid (by unfold fewB; have := Hq.out; rw [List.take_length] at this; rw [this]; simp)
      go_wp2
      go_ret
      exact ⟨by rw [HF.out]; exact ret_bool (by simp), rfl⟩
theorem own_nonil9 {w : World} {base : Nat} {e : TypeId} {q : Option Addr} {n c : Nat} {xs : List Value} (h : w.ownsRow base e 1 (.slice q n c) n xs) (hn : 0 < n) : q.isSome = true := by
  obtain ⟨hl, ⟨h1, h2⟩ | ⟨g, cap, cur, h1, _⟩⟩ := h
  · omega
  · simp at h1; rw [h1.1]; rfl
theorem own_lit9 {w : World} {b base : Nat} {e : TypeId} {v : Value} (h : Blk w b (.cells #[v] e)) (hb : base ≤ b) : w.ownsRow base e 1 (.slice (some ⟨b, 0, none⟩) 1 1) 1 [v] :=
  ⟨by simp, .inr ⟨b, 1, #[v], rfl, hb, h, Nat.le_refl _, by unfold maxLen; omega, by simp, by simp⟩⟩
/-- An operation is loaded whole. -/
theorem wp_load_op {o : Oper} {a : Act} {w : World} {K : Act → World → Prop} {Q : Exit → Act → World → Prop} (x : Operand) (ho : o.op = .load 78 x) (g off : Nat) (hx : a.eval x = .pointer (some ⟨g, off, none⟩)) (s : Int) (r : List UInt8)
    (h0 : w.cell? ⟨g, off, none⟩ = some (.int .i64 s)) (h1 : w.cell? ⟨g, off + 1, none⟩ = some (.string ⟨r.toArray⟩)) (h : K (a.put o.dst (.agg #[.int .i64 s, .string ⟨r.toArray⟩])) w) : o.wp Tryd.prog a w K Q := by
  have hl : (loadCells ⟨g, off, none⟩ 2).run Tryd.prog w = .ok #[.int .i64 s, .string ⟨r.toArray⟩] w :=
    run_loadCells_list (P := Tryd.prog) w ⟨g, off, none⟩ [.int .i64 s, .string ⟨r.toArray⟩] (fun j v hv => by
      rw [addr_add]
      rcases j with _ | _ | j
      · simp at hv; subst hv; exact h0
      · simp at hv; subst hv; exact h1
      · simp at hv)
  have hlv : (loadVar 78 ⟨g, off, none⟩).run Tryd.prog w = .ok (.agg #[.int .i64 s, .string ⟨r.toArray⟩]) w := by
    have hi := opSize
    cases hq : Tryd.prog.info? 78 with
    | none => simp [hq] at hi
    | some i =>
      have hs : i.size = 2 := by simpa [hq] using hi
      have hagg : (isAgg 78).run Tryd.prog w = .ok true w := by
        unfold isAgg
        rw [Sem.run_bind, run_underlying opDesc w]
        rfl
      simp [loadVar, Sem.run_bind, hagg, Go.sizeOf, typeInfo, hq, hs, hl]
  unfold Oper.wp execOp
  simp only [ho, hx, Instr.loadAt, Instr.sureAddr, Sem.run_bind, Sem.run_pure, Result.andThen_ok, hlv]
  exact h
/-- What stands in the laws' loops behind some operations: the header's variable, the pages. -/
def StIn (w : World) (hb : Nat) (d : DS) (s : St) (v : Value) (wr : World) : Prop :=
  Ext w wr ∧ HdAt wr hb s.1 ∧ DsAt wr w.heap.size d ∧ wr.ownsRow w.heap.size 9 1 v s.2.length (s.2.map fun s : List UInt8 => Value.string ⟨s.toArray⟩)
end Go.Proofs.YtjgdhlpnpihkdaaDoor
