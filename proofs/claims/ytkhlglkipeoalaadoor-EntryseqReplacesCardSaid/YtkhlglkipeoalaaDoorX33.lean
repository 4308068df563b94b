/- The walk of the law EntryseqKeeps. -/

import Derived.Test.YtkhlglkipeoalaaDoorXL
set_option linter.unusedSimpArgs false
set_option linter.unusedVariables false
namespace Dsd
open Go Go.RowKit in
/-- wpList_app, of an operation under a guard that is met. -/
theorem wpList_appW {P : Program} {w : World} {ops : Array Oper} {rest : List Oper} {o : Oper} {a : Act} {Q : Exit → Act → World → Prop} (hw : Region.wanted o (yielded ops a.tmps) = true) (d s : Operand) (T E : TypeId)
    (ho : o.op = .call { callee := .builtin .append, args := #[d, s], argTypes := #[T, T] })
    (base : Nat) (z : Value) (size bytes : Nat) (ht : P.underlying T = some (.slice E)) (hinfo : (P.info? E).map (fun i => (i.zero, i.size, i.bytes)) = some (some z, size, bytes)) (hzs : z.cells.size = size) (hsz : 0 < size)
    (v : Value) (n : Nat) (xs : List Value) (hv : a.eval d = v) (hown : w.ownsRow base E size v n xs) (b : Nat) (news : List Value) (hs : a.eval s = .slice (some ⟨b, 0, none⟩) 1 1) (hblk : Blk w b (.cells news.toArray E)) (hl : news.length = size)
    (h1 : ∀ u ∈ news, u.oneCell' = true) (hn : n + 1 ≤ 100000000) (hby : bytes ≤ 1000) (hbase : base ≤ w.heap.size)
    (h : ∀ v' w', w'.ownsRow base E size v' (n + 1) (xs ++ news) → w.grownBy w' v.ownBlock → wpList P ops Q rest (a.put o.dst v') w') : wpList P ops Q (o :: rest) a w :=
  wpList_step fun K hK => by
    rw [if_pos hw]
    exact wp_app d s T E ho base z size bytes ht hinfo hzs hsz v n xs hv hown b news hs hblk hl h1 hn hby hbase fun v' w' h2 h3 => hK _ _ (h v' w' h2 h3)
theorem putC_len (size : Int) (C : List Recs) (r : List UInt8) : (putC size C r).length = C.length ∨ (putC size C r).length = C.length + 1 := by
  cases C with
  | nil => right; rfl
  | cons L C => rw [putC]; split <;> simp
theorem addrP_page {d : DS} {C : List Recs} {r : List UInt8} (h : Made d (putC d.interval C r)) (hs : 128 ≤ d.interval) (hr : 1 ≤ r.length) : (addrP d.interval C r) / d.interval = (putC d.interval C r).length := by
  have hh : ∃ L, (putC d.interval C r).headD [] = L ++ [r] := by
    cases C with
    | nil => exact ⟨[], rfl⟩
    | cons L C =>
      rw [putC]
      split
      · exact ⟨L, rfl⟩
      · exact ⟨[], rfl⟩
  obtain ⟨L, hL⟩ := hh
  have hm : L ++ [r] ∈ putC d.interval C r := by
    rw [← hL]
    cases hC : putC d.interval C r with
    | nil => rw [hC] at hL; simp at hL
    | cons a b => simp
  have hf := (h.fit _ hm).2
  rw [sumLen_append] at hf
  have h1 : sumLen [r] = r.length := by simp [sumLen]
  unfold addrP
  rw [hL, List.dropLast_concat, Int.add_comm, Int.add_mul_ediv_right _ _ (by omega), Int.ediv_eq_zero_of_lt (by omega) (by omega)]
  simp
theorem head_len {d : DS} {C : List Recs} (h : Made d C) (hC : C ≠ []) : ((encStr d.interval (C.headD [])).length : Int) = d.interval := by
  cases C with
  | nil => exact absurd rfl hC
  | cons L C => exact enc_length (fits_enc (h.good L (by simp)).2)
theorem pairsC_eq (size : Int) (C : List Recs) : pairsC size C = (recsA size C).map pairA := rfl
theorem all_made {d : DS} {C : List Recs} (h : Made d C) (hv : validB d = true) (ho : d.org = 1) (hc : (C.map List.length).sum ≤ 1000) : allOf (memOf d.interval C) (hdOf C) d = (pairsC d.interval C, 0) := by
  have hcl := count_len C (fun L hL => (h.good L hL).1)
  have e1 : (hdOf C).count = ((C.map List.length).sum : Int) := rfl
  have e2 : (hdOf C).fin = (C.length : Int) := rfl
  have hp : plainB (hdOf C) = true := by
    unfold plainB
    rw [e1, e2]
    simp only [Bool.and_eq_true, decide_eq_true_eq]
    omega
  have hd : doorOf (hdOf C) d 1 = 0 := by unfold doorOf; rw [hv, hp]; simp [ho]
  have hs : scanOf (memOf d.interval C) d.interval (hdOf C).fin 1 = (recsA d.interval C, 0) := by
    unfold scanOf
    rw [e2, show ((C.length : Int) + 1 - 1).toNat = C.length by omega]
    exact scan_made C h.good
  unfold allOf
  rw [hd, hs]
  simp [pairsC_eq]
end Dsd
namespace Go.Proofs.YtkhlglkipeoalaaDoor
open Go.RowKit Dsd
theorem prCells_at (L : List (List UInt8 × List UInt8)) (i : Nat) (h : i < L.length) : (prCells L)[i * 2]? = some (.string ⟨(L.getD i ([], [])).1.toArray⟩) ∧ (prCells L)[i * 2 + 1]? = some (.string ⟨(L.getD i ([], [])).2.toArray⟩) := by
  induction L generalizing i with
  | nil => simp at h
  | cons x L ih =>
    have e : prCells (x :: L) = .string ⟨x.1.toArray⟩ :: .string ⟨x.2.toArray⟩ :: prCells L := by simp [prCells]
    rw [e]
    cases i with
    | zero => simp
    | succ i =>
      have := ih i (by simpa using h)
      rw [show (i + 1) * 2 = i * 2 + 2 by omega, show i * 2 + 2 + 1 = (i * 2 + 1) + 2 by omega]
      simpa using this
theorem prCells_len (L : List (List UInt8 × List UInt8)) : (prCells L).length = 2 * L.length := by
  induction L with
  | nil => rfl
  | cons x L ih => simp [prCells] at ih ⊢; omega
theorem prCells_snoc (L : List (List UInt8 × List UInt8)) (x : List UInt8 × List UInt8) : prCells (L ++ [x]) = prCells L ++ [.string ⟨x.1.toArray⟩, .string ⟨x.2.toArray⟩] := by simp [prCells]
theorem own_prs {w : World} {base : Nat} {v : Value} {L : List (List UInt8 × List UInt8)} {n : Nat} (h : w.ownsRow base 61 2 v n (prCells L)) : ∃ q c, v = .slice q n c ∧ Prs w q L ∧ L.length = n := by
  obtain ⟨hl, ⟨rfl, rfl⟩ | ⟨g, cap, cur, rfl, _, hg, h1, h2, h3, h4⟩⟩ := h
  · rw [prCells_len] at hl
    exact ⟨none, 0, rfl, .inl (List.eq_nil_of_length_eq_zero (by omega)), by omega⟩
  · rw [prCells_len] at hl
    refine ⟨_, _, rfl, .inr ⟨g, 0, rfl, (Array.getElem?_eq_some_iff.1 hg).1, fun i hi => ?_⟩, by omega⟩
    obtain ⟨c1, c2⟩ := prCells_at L i hi
    have hb : Blk w g (.cells cur 61) := hg
    have k : ∀ j, (prCells L)[j]? = if j < n * 2 then cur[j]? else none := fun j => by rw [← h4, List.getElem?_take]; simp
    rw [k, if_pos (by omega)] at c1 c2
    rw [Nat.zero_add]
    exact ⟨Blk.val hb _ _ c1, Blk.val hb _ _ c2⟩
theorem own_strs3 {w : World} {base : Nat} {e : TypeId} {q : Option Addr} {n c : Nat} {L : List (List UInt8)} (h : w.ownsRow base e 1 (.slice q n c) n (L.map fun s => .string ⟨s.toArray⟩)) : Strs w q L := by
  obtain ⟨_, _, hqq, hss, _⟩ := own_strs_p h
  cases hqq; exact hss
/-- A row stands while an older one grows. -/
theorem own_older {w w' w0 : World} {base b0 : Nat} {e e0 : TypeId} {size s0 : Nat} {v v0 : Value} {n n0 : Nat} {xs xs0 : List Value} (h : w.ownsRow base e size v n xs) (hg : w.grownBy w' v0.ownBlock) (h0 : w0.ownsRow b0 e0 s0 v0 n0 xs0) (hB : w0.heap.size ≤ base) : w'.ownsRow base e size v n xs := by
  refine h.kept hg ?_
  cases hv : v.ownBlock with
  | none => exact .inl rfl
  | some k =>
    right
    intro he
    have h1 := h.lt k hv
    have h2 := h0.lt k he.symm
    omega
/-- What All hands back, as a fact. -/
def AllF (B : Nat) (R : List (List UInt8 × List UInt8) × Int) : Fact := fun x w => ∃ q c, x = .tuple #[.slice q R.1.length c, .int .i64 R.2] ∧ w.ownsRow B 61 2 (.slice q R.1.length c) R.1.length (prCells R.1)
theorem AllF.stable (B : Nat) (R : List (List UInt8 × List UInt8) × Int) : (AllF B R).stable := fun _ _ _ he ⟨q, c, h1, h2⟩ => ⟨q, c, h1, own_ext h2 he⟩
theorem allOut_F {R : List (List UInt8 × List UInt8) × Int} {B : Nat} {w w' : World} {e : Ending} (hB : B ≤ w.heap.size) (a : AllOut R w e w') : ∃ v, e = .returned v ∧ Ext w w' ∧ AllF B R v w' := by
  obtain ⟨he, q, k, c, rfl, rfl, ho⟩ := a
  exact ⟨_, rfl, he, q, c, rfl, own_le ho hB⟩

/-- Does the law speak of this input? -/
def keepsB (d : DS) (L : Recs) (r : List UInt8) : Bool := shortB L 40 300 && validB d && decide (d.org = 1) && decide (1 ≤ r.length) && decide ((r.length : Int) ≤ d.length)
set_option maxRecDepth 100000 in
set_option maxHeartbeats 4000000 in
theorem EntryseqKeeps_no (p : Option Addr) (cap n : Nat) (L : Recs) (d : DS) (r : List UInt8) (w : World) (hs : Strs w p L) (hn : L.length = n) (hl : L.length ≤ maxLen) (hno : keepsB d L r = false) :
    Calls Tryd.prog 6 #[.agg #[.int .i64 d.id, .int .i64 d.org, .int .i64 d.format, .int .i64 d.length, .int .i64 d.block, .int .i64 d.keyAt, .int .i64 d.keyLength, .int .i64 d.interval, .int .i64 d.area, .int .i64 d.freeInterval, .int .i64 d.freeArea, .int .i64 d.base, .int .i64 d.altAt, .int .i64 d.altLength, .bool d.unique, .int .i64 d.cls, .string ⟨d.volume.toArray⟩, .string ⟨d.owner.toArray⟩, .int .i64 d.created, .int .i64 d.expires, .bool d.archived], .slice p n cap, .string ⟨r.toArray⟩] w fun e w' => e = .returned (.bool true) ∧ Ext w w' := by
  have HS1 := Lib.hid (fun w h => small_any p cap n L w h hn hl)
  have Hs := Lib.hid hs
  have HV := Lib.hid (fun w => Valid_ref d w)
  have hrl : r.length = r.length := rfl
  unfold keepsB at hno
  clear hs
  generalize shortB L 40 300 = s1 at *
  generalize validB d = s3 at *
  have hoI : (d.org != 1) = !decide (d.org = 1) := by by_cases h : d.org = 1 <;> simp [h]
  generalize decide (d.org = 1) = s4 at *
  cases s1
  · clear hno
    go_enter Tryd.func6, Tryd.ntmps6
    go_upto_region 1 with (fail)
    refine wp_name (fun w0 => Ext w w0 ∧ DsAt w0 w.heap.size d) ⟨Ext.alloc _ _, Blk.new _ _⟩ ?_
    rintro w0 ⟨he0, hb2⟩
    go_wp2_with (first | (go_at_call 10; refine (awake_any _).mono ?_; rintro e w1 ⟨rfl, he1⟩) | (go_at_call 11; refine (HS1.out _ (Hs.out.ext (he0.trans he1))).mono ?_; rintro e w2 ⟨rfl, rfl⟩) | (refine wpList_ds rfl (.tmp 3) rfl _ rfl d (hb2.ext he1) ?_) | (go_at_call 17; refine (HV.out _).mono ?_; rintro e w3 ⟨rfl, he3⟩; have c1 : w3.cell? ⟨w.heap.size, 1, none⟩ = some (.int .i64 d.org) := Blk.val ((hb2.ext he1).ext he3) 1 _ rfl; have c3 : w3.cell? ⟨w.heap.size, 3, none⟩ = some (.int .i64 d.length) := Blk.val ((hb2.ext he1).ext he3) 3 _ rfl))
    go_ret
    exact ⟨rfl, he0.trans he1⟩
  · cases s3
    · clear hno
      go_enter Tryd.func6, Tryd.ntmps6
      go_upto_region 1 with (fail)
      refine wp_name (fun w0 => Ext w w0 ∧ DsAt w0 w.heap.size d) ⟨Ext.alloc _ _, Blk.new _ _⟩ ?_
      rintro w0 ⟨he0, hb2⟩
      go_wp2_with (first | (go_at_call 10; refine (awake_any _).mono ?_; rintro e w1 ⟨rfl, he1⟩) | (go_at_call 11; refine (HS1.out _ (Hs.out.ext (he0.trans he1))).mono ?_; rintro e w2 ⟨rfl, rfl⟩) | (refine wpList_ds rfl (.tmp 3) rfl _ rfl d (hb2.ext he1) ?_) | (go_at_call 17; refine (HV.out _).mono ?_; rintro e w3 ⟨rfl, he3⟩; have c1 : w3.cell? ⟨w.heap.size, 1, none⟩ = some (.int .i64 d.org) := Blk.val ((hb2.ext he1).ext he3) 1 _ rfl; have c3 : w3.cell? ⟨w.heap.size, 3, none⟩ = some (.int .i64 d.length) := Blk.val ((hb2.ext he1).ext he3) 3 _ rfl))
      go_ret
      exact ⟨rfl, (he0.trans he1).trans he3⟩
    · cases s4
      · clear hno
        go_enter Tryd.func6, Tryd.ntmps6
        go_upto_region 1 with (fail)
        refine wp_name (fun w0 => Ext w w0 ∧ DsAt w0 w.heap.size d) ⟨Ext.alloc _ _, Blk.new _ _⟩ ?_
        rintro w0 ⟨he0, hb2⟩
        go_wp2_with (first | (go_at_call 10; refine (awake_any _).mono ?_; rintro e w1 ⟨rfl, he1⟩) | (go_at_call 11; refine (HS1.out _ (Hs.out.ext (he0.trans he1))).mono ?_; rintro e w2 ⟨rfl, rfl⟩) | (refine wpList_ds rfl (.tmp 3) rfl _ rfl d (hb2.ext he1) ?_) | (go_at_call 17; refine (HV.out _).mono ?_; rintro e w3 ⟨rfl, he3⟩; have c1 : w3.cell? ⟨w.heap.size, 1, none⟩ = some (.int .i64 d.org) := Blk.val ((hb2.ext he1).ext he3) 1 _ rfl; have c3 : w3.cell? ⟨w.heap.size, 3, none⟩ = some (.int .i64 d.length) := Blk.val ((hb2.ext he1).ext he3) 3 _ rfl))
        go_ret
        exact ⟨rfl, (he0.trans he1).trans he3⟩
      · by_cases h5 : 1 ≤ r.length
        · have h6 : ¬ (r.length : Int) ≤ d.length := by
            intro h6
            simp [h5, h6] at hno
          have k1 : decide ((r.length : Int) < 1) = false := decide_eq_false (by omega)
          have k2 : decide (r.length < 1) = false := decide_eq_false (by omega)
          have k3 : decide (d.length < (r.length : Int)) = true := decide_eq_true (by omega)
          clear hno h5 h6
          go_enter Tryd.func6, Tryd.ntmps6
          go_upto_region 1 with (fail)
          refine wp_name (fun w0 => Ext w w0 ∧ DsAt w0 w.heap.size d) ⟨Ext.alloc _ _, Blk.new _ _⟩ ?_
          rintro w0 ⟨he0, hb2⟩
          go_wp2_with (first | (go_at_call 10; refine (awake_any _).mono ?_; rintro e w1 ⟨rfl, he1⟩) | (go_at_call 11; refine (HS1.out _ (Hs.out.ext (he0.trans he1))).mono ?_; rintro e w2 ⟨rfl, rfl⟩) | (refine wpList_ds rfl (.tmp 3) rfl _ rfl d (hb2.ext he1) ?_) | (go_at_call 17; refine (HV.out _).mono ?_; rintro e w3 ⟨rfl, he3⟩; have c1 : w3.cell? ⟨w.heap.size, 1, none⟩ = some (.int .i64 d.org) := Blk.val ((hb2.ext he1).ext he3) 1 _ rfl; have c3 : w3.cell? ⟨w.heap.size, 3, none⟩ = some (.int .i64 d.length) := Blk.val ((hb2.ext he1).ext he3) 3 _ rfl))
          go_ret
          exact ⟨rfl, (he0.trans he1).trans he3⟩
        · have k1 : decide ((r.length : Int) < 1) = true := decide_eq_true (by omega)
          have k2 : decide (r.length < 1) = true := decide_eq_true (by omega)
          clear hno h5
          go_enter Tryd.func6, Tryd.ntmps6
          go_upto_region 1 with (fail)
          refine wp_name (fun w0 => Ext w w0 ∧ DsAt w0 w.heap.size d) ⟨Ext.alloc _ _, Blk.new _ _⟩ ?_
          rintro w0 ⟨he0, hb2⟩
          go_wp2_with (first | (go_at_call 10; refine (awake_any _).mono ?_; rintro e w1 ⟨rfl, he1⟩) | (go_at_call 11; refine (HS1.out _ (Hs.out.ext (he0.trans he1))).mono ?_; rintro e w2 ⟨rfl, rfl⟩) | (refine wpList_ds rfl (.tmp 3) rfl _ rfl d (hb2.ext he1) ?_) | (go_at_call 17; refine (HV.out _).mono ?_; rintro e w3 ⟨rfl, he3⟩; have c1 : w3.cell? ⟨w.heap.size, 1, none⟩ = some (.int .i64 d.org) := Blk.val ((hb2.ext he1).ext he3) 1 _ rfl; have c3 : w3.cell? ⟨w.heap.size, 3, none⟩ = some (.int .i64 d.length) := Blk.val ((hb2.ext he1).ext he3) 3 _ rfl))
          go_ret
          exact ⟨rfl, (he0.trans he1).trans he3⟩
set_option maxRecDepth 100000 in
set_option maxHeartbeats 4000000 in
theorem EntryseqKeeps_yes (p : Option Addr) (cap n : Nat) (L : Recs) (d : DS) (r : List UInt8) (w : World) (hs : Strs w p L) (hn : L.length = n) (hl : L.length ≤ maxLen) (h1 : shortB L 40 300 = true) (hv : validB d = true) (ho : d.org = 1) (hr1 : 1 ≤ r.length) (hr2 : (r.length : Int) ≤ d.length) :
    Calls Tryd.prog 6 #[.agg #[.int .i64 d.id, .int .i64 d.org, .int .i64 d.format, .int .i64 d.length, .int .i64 d.block, .int .i64 d.keyAt, .int .i64 d.keyLength, .int .i64 d.interval, .int .i64 d.area, .int .i64 d.freeInterval, .int .i64 d.freeArea, .int .i64 d.base, .int .i64 d.altAt, .int .i64 d.altLength, .bool d.unique, .int .i64 d.cls, .string ⟨d.volume.toArray⟩, .string ⟨d.owner.toArray⟩, .int .i64 d.created, .int .i64 d.expires, .bool d.archived], .slice p n cap, .string ⟨r.toArray⟩] w fun e w' => e = .returned (.bool true) ∧ Ext w w' := by
  obtain ⟨hL, hLs⟩ := short_at h1
  have HS1 := Lib.hid (fun w h => small_any p cap n L w h hn hl)
  rw [h1] at HS1
  have HV := Lib.hid (fun w => Valid_ref d w)
  rw [hv] at HV
  obtain ⟨_, _, v3, v4, v5, v6⟩ := valid_spec hv
  have hiv : 128 ≤ d.interval ∧ d.interval ≤ 512 := by rcases isSize_spec v3 with h | h | h <;> omega
  obtain ⟨hi0, hi1⟩ := hiv
  have hMd := builtC_made d hv L.length L (Nat.le_refl _)
  rw [List.take_length] at hMd
  obtain ⟨hMd, hcnt⟩ := hMd
  have HBu := Lib.hid (fun w h => build_any p cap n L d w h hn hv ho hL hLs)
  have hAM := append_made (r := r) hMd hv ho (by omega)
  rw [if_pos ⟨hr1, hr2⟩] at hAM
  have hMd' := hMd.put hv hr1 hr2
  have hcp := count_put (size := d.interval) (C := builtC d L) (r := r)
  have HAll := Lib.hid (all_made hMd' hv ho (by omega))
  have HPM := Lib.hid (puts_made (size := d.interval) (C := builtC d L) (r := r) (by have := count_len (builtC d L) (fun M hM => (hMd.good M hM).1); omega))
  have HPC := Lib.hid (pairsC_put d.interval (builtC d L) r)
  have hpg := addrP_page hMd' hi0 hr1
  have hrl : r.length ≤ 200 := by omega
  have hne : putC d.interval (builtC d L) r ≠ [] := by intro h; have := putC_len d.interval (builtC d L) r; rw [h] at this hcp; simp at hcp
  have hhl := head_len hMd' hne
  have hpl := putC_len d.interval (builtC d L) r
  have hcl := count_len (builtC d L) (fun M hM => (hMd.good M hM).1)
  have hcl' := count_len _ (fun M hM => (hMd'.good M hM).1)
  have hAd := addrP_le hMd' hi1 (by omega) (by omega)
  obtain ⟨ha0, ha1⟩ := hAd
  have Hs := Lib.hid hs
  have HMd := Lib.hid hMd
  have hoI : (d.org != 1) = false := by simp [ho]
  have k1 : decide ((r.length : Int) < 1) = false := decide_eq_false (by omega)
  have k2 : decide (r.length < 1) = false := decide_eq_false (by omega)
  have k3 : decide (d.length < (r.length : Int)) = false := decide_eq_false (by omega)
  subst hn
  have hsm1 := memOf_small d.interval (builtC d L) (by omega)
  have hsm2 := memOf_small d.interval (putC d.interval (builtC d L) r) (by omega)
  have hml1 : (memOf d.interval (builtC d L)).length ≤ 1000 := by rw [length_memOf]; omega
  have hml2 : (memOf d.interval (putC d.interval (builtC d L) r)).length ≤ 1000 := by rw [length_memOf]; omega
  have hpl2 : (pairsC d.interval (builtC d L)).length ≤ 1000 := by
    have := recsA_len d.interval (builtC d L)
    unfold pairsC; rw [List.length_map, this]; omega
  have Hsm1 := Lib.hid hsm1
  have Hsm2 := Lib.hid hsm2
  generalize builtC d L = C at *
  generalize putC d.interval C r = C' at *
  generalize encStr d.interval (C'.headD []) = es at *
  generalize addrP d.interval C r = AT at *
  have HAM := Lib.hid hAM
  have Hhl := Lib.hid hhl
  have Hpg := Lib.hid hpg
  have Hcp := Lib.hid hcp
  clear hs h1 hv ho hMd hLs hAM hMd' hsm1 hsm2 hr1 hr2 v3 hhl hpg hcp hne
  go_enter Tryd.func6, Tryd.ntmps6
  go_upto_region 1 with (fail)
  refine wp_name (fun w0 => Ext w w0 ∧ DsAt w0 w.heap.size d) ⟨Ext.alloc _ _, Blk.new _ _⟩ ?_
  rintro w0 ⟨he0, hb2⟩
  go_upto_region 5 with (first | (go_at_call 10; refine (awake_any _).mono ?_; rintro e w1 ⟨rfl, he1⟩) | (go_at_call 11; refine (HS1.out _ (Hs.out.ext (he0.trans he1))).mono ?_; rintro e w2 ⟨rfl, rfl⟩) | (refine wpList_ds rfl (.tmp 3) rfl _ rfl d (hb2.ext he1) ?_) | (go_at_call 17; refine (HV.out _).mono ?_; rintro e w3 ⟨rfl, he3⟩; have c1 : w3.cell? ⟨w.heap.size, 1, none⟩ = some (.int .i64 d.org) := Blk.val ((hb2.ext he1).ext he3) 1 _ rfl; have c3 : w3.cell? ⟨w.heap.size, 3, none⟩ = some (.int .i64 d.length) := Blk.val ((hb2.ext he1).ext he3) 3 _ rfl))
  refine wp_name (fun w4 => Ext w w4 ∧ DsAt w4 w.heap.size d) ⟨(he0.trans he1).trans he3, (hb2.ext he1).ext he3⟩ ?_
  clear hb2 he0 he1 he3 c1 c3
  rintro w4 ⟨he4, hb4⟩
  go_upto_region 6 with (first | (refine wpList_ds rfl (.tmp 3) rfl _ rfl d hb4 ?_) | (go_at_call 18; refine (HBu.out _ (Hs.out.ext he4)).mono ?_; rintro e w5 ⟨he5, q1, k1, c1, q2, k2, c2, rfl, ho1, ho2⟩) | (refine wpList_put rfl 28 (.tmp 7) (.tmp 47) rfl _ #[.int .i64 (hdOf C).applied, .int .i64 (hdOf C).count, .int .i64 (hdOf C).fin, .int .i64 (hdOf C).root, .int .i64 (hdOf C).height, .int .i64 (hdOf C).splits, .int .i64 (hdOf C).areas] rfl rfl _ _ (Blk.new w5 _) hdSize rfl (hd_one (hdOf C)) ?_; intro w6 hb6 hc6))
  have hx5 := he4.trans he5
  obtain ⟨q1', c1', hq1⟩ := own_slice ho1
  cases hq1
  obtain ⟨q2', c2', hq2⟩ := own_slice ho2
  cases hq2
  obtain ⟨H, hH⟩ : ∃ H : Hd, H = hdOf C := ⟨_, rfl⟩
  obtain ⟨G, hG⟩ : ∃ G : Hd, G = hdOf C' := ⟨_, rfl⟩
  have hHf := Lib.hid (show H.fin = C.length by rw [hH]; rfl)
  have hGf := Lib.hid (show G.fin = C'.length by rw [hG]; rfl)
  rw [← hH, ← hG] at HAM
  rw [← hG] at HAll
  rw [← hH] at hb6
  refine wp_name (fun w7 => Ext w w7 ∧ HdAt w7 w5.heap.size H ∧ DsAt w7 w.heap.size d ∧ w7.ownsRow w.heap.size 9 1 (.slice q1 (memOf d.interval C).length c1) (memOf d.interval C).length ((memOf d.interval C).map fun s => .string ⟨s.toArray⟩) ∧ w7.ownsRow w.heap.size 61 2 (.slice q2 (pairsC d.interval C).length c2) (pairsC d.interval C).length (prCells (pairsC d.interval C)))
    ⟨hc6.ext (hx5.trans (Ext.alloc _ _)) hx5.size, hb6, hc6.blk (Blk.alloc (hb4.ext he5) _) (by have := Blk.lt (hb4.ext he5); omega), own_chgT (own_le (own_ext ho1 (Ext.alloc _ _)) he4.size) (by decide) (Blk.new w5 _) hc6, own_chgT (own_le (own_ext ho2 (Ext.alloc _ _)) he4.size) (by decide) (Blk.new w5 _) hc6⟩ ?_
  have hwb : w.heap.size < w5.heap.size := Blk.lt (hb4.ext he5)
  generalize w5.heap.size = hb at *
  clear he4 he5 hx5 hb4 ho1 ho2 hb6 hc6 hH hG
  rintro w7 ⟨he7, hb7, hd7, hm7, hp7⟩
  have hmp : 0 < (memOf d.interval C).length := by rw [length_memOf]; omega
  obtain ⟨q1', c1', hqe, hsq, _, _, _⟩ := own_strs_p hm7
  cases hqe
  obtain ⟨ad, rfl⟩ := Option.isSome_iff_exists.1 (own_nonil hm7 hmp)
  have HA1 := Lib.hid (fun w' (e : Ext w7 w') => (Append_any (some ad) (memOf d.interval C).length c1 (memOf d.interval C) H d r w' (hsq.ext e) rfl Hsm1.out (by omega)).mono (fun e w'' a => appOut_F a))
  rw [HAM.out] at HA1
  obtain ⟨WA, hWA⟩ : ∃ WA : List (Int × List UInt8), WA = [((C'.length : Int), es)] := ⟨_, rfl⟩
  rw [← hWA] at HA1 HPM
  have HWA := Lib.hid hWA
  have Hwl := Lib.hid (show WA.length = 1 by rw [hWA]; rfl)
  have Hm7 := Lib.hid hm7
  have Hp7 := Lib.hid hp7
  have He7 := Lib.hid he7
  have hhb7 : hb < w7.heap.size := Blk.lt hb7
  clear hm7 hp7 he7 hsq hWA
  go_upto_region 7 with (first | (refine wpList_hd rfl (.tmp 7) rfl _ rfl H hb7 ?_) | (refine wpList_ds rfl (.tmp 3) rfl _ rfl d hd7 ?_) | (go_at_call 12; refine (HA1.out _ (Ext.refl _)).mono ?_; rintro e w8 ⟨v, rfl, he8, q8, k8, c8, rfl, hk8, hw8⟩) | (refine wpList_put (o := ⟨none, _, _, _, _, _⟩) rfl 28 (.tmp 11) (.tmp 58) rfl _ #[.int .i64 G.applied, .int .i64 G.count, .int .i64 G.fin, .int .i64 G.root, .int .i64 G.height, .int .i64 G.splits, .int .i64 G.areas] rfl rfl _ _ (Blk.new w8 _) hdSize rfl (hd_one G) ?_; intro w9 hb9 hc9))
  subst hk8
  rw [Hwl.out]
  have htc : TChg 0 28 (w8.alloc (.cells #[.int .i64 0, .int .i64 0, .int .i64 0, .int .i64 0, .int .i64 0, .int .i64 0, .int .i64 0] 28)) w9 := ⟨w8.heap.size, _, Nat.zero_le _, Blk.new w8 _, hc9⟩
  refine wp_name (fun w10 => Ext w7 w10 ∧ HdAt w10 w8.heap.size G ∧ Wrts w10 q8 WA) ⟨hc9.ext (he8.trans (Ext.alloc _ _)) he8.size, hb9, (hw8.ext (Ext.alloc _ _)).tchg (by decide) htc⟩ ?_
  generalize w8.heap.size = gb at *
  clear htc hb9 hc9 he8 hw8
  rintro w10 ⟨he10, hb10, hw10⟩
  obtain ⟨b8, o8, rfl, hb8, hc8⟩ := hw10.at 0 (by rw [Hwl.out]; omega)
  have hc80 := hc8 0 (by rw [Hwl.out]; omega)
  rw [HWA.out] at hc80
  simp only [List.getD_cons_zero, Nat.zero_mul, Nat.add_zero] at hc80
  obtain ⟨e1, e2⟩ := hc80
  rw [← hGf.out] at e1
  have hG0 := Lib.hid (show 0 ≤ H.fin ∧ H.fin ≤ 1000 by rw [hHf.out]; omega)
  obtain ⟨hH0, hH1⟩ := hG0.out
  have e3 : w10.cell? ⟨gb, 2, none⟩ = some (.int .i64 G.fin) := Blk.val hb10 2 _ rfl
  have e4 : w10.cell? ⟨hb, 2, none⟩ = some (.int .i64 H.fin) := Blk.val (hb7.ext he10) 2 _ rfl
  have e5 : w10.cell? ⟨w.heap.size, 7, none⟩ = some (.int .i64 d.interval) := Blk.val (hd7.ext he10) 7 _ rfl
  have f1 : IntKind.i64.wrap (AT.tdiv d.interval) = G.fin := by
    rw [Int.tdiv_eq_ediv_of_nonneg ha0, Hpg.out, hGf.out, IntWalk.i64_in _ (by omega)]
  have f2 : IntKind.i64.wrap (H.fin + 1) = H.fin + 1 := IntWalk.i64_in _ (by omega)
  have f3 : ¬ d.interval = 0 := by omega
  have f4 : ((es.length : Int) != d.interval) = false := by simp [Hhl.out]
  have HE10 := Lib.hid he10
  have Hb10 := Lib.hid hb10
  have Hw10 := Lib.hid hw10
  have Hb7 := Lib.hid hb7
  have Hd7 := Lib.hid hd7
  clear hc8 he10 hb10 hw10 hb7 hd7 hcnt hcl hcl'
  rcases hpl with hpl | hpl
  all_goals first
    | (have f5 : (G.fin != H.fin) = false := by rw [hGf.out, hHf.out, hpl]; simp
       clear hpl
       go_quiet (fail)
       go_upto_region 9 with (fail))
    | (have f5 : (G.fin != H.fin) = true := by rw [hGf.out, hHf.out, hpl]; simp; omega
       have f6 : (G.fin != H.fin + 1) = false := by rw [hGf.out, hHf.out, hpl]; simp
       clear hpl
       go_quiet (fail)
       go_upto_region 9 with (fail)
       clear f6)
  all_goals
    refine wp_name (fun w11 => Ext w7 w11 ∧ HdAt w11 gb G ∧ Wrts w11 (some ⟨b8, o8, none⟩) WA) ⟨HE10.out.trans (Ext.drewN w10 nq), (Ext.drewN w10 nq).blk _ _ Hb10.out, Hw10.out.ext (Ext.drewN w10 nq)⟩ ?_
    clear e1 e2 e3 e4 e5 f1 f2 f3 f4 f5 HE10 Hb10 Hw10
    rintro w11 ⟨he11, hb11, hw11⟩
    have Hd11 := Lib.hid (Hd7.out.ext he11)
    have Hp11 := Lib.hid (own_ext Hp7.out he11)
    have HE11 := Lib.hid (He7.out.trans he11)
    have hz11 := he11.size
    have hsq1 : Strs w11 (some ad) (memOf d.interval C) := by
      obtain ⟨_, _, hqq, hss, _⟩ := own_strs_p (own_ext Hm7.out he11)
      cases hqq; exact hss
    have HPu := Lib.hid (fun w' (e : Ext w11 w') => (Put_any ad (some ⟨b8, o8, none⟩) (memOf d.interval C).length c1 1 c8 (memOf d.interval C) WA w' (hsq1.ext e) rfl (hw11.ext e) Hwl.out (by omega) (by omega)).mono (show ∀ (e : Ending) (w'' : World), (Ext w' w'' ∧ ∃ v, e = .returned v ∧ w''.ownsRow w'.heap.size 9 1 v (putsP (memOf d.interval C) WA).length ((putsP (memOf d.interval C) WA).map fun s => .string ⟨s.toArray⟩)) → (∃ v, e = .returned v ∧ Ext w' w'' ∧ RowsF 9 w.heap.size 1 (memOf d.interval C').length ((memOf d.interval C').map fun s : List UInt8 => Value.string ⟨s.toArray⟩) v w'') from fun e' w'' ⟨h1, v, h2, h3⟩ => ⟨v, h2, h1, by rw [HPM.out] at h3; obtain ⟨q2, c2, rfl⟩ := own_slice h3; exact ⟨q2, c2, rfl, own_le h3 (HE11.out.trans e).size⟩⟩))
    have HAl := Lib.hid (fun w' (e : Ext w11 w') q c (h : w'.ownsRow w.heap.size 9 1 (.slice q (memOf d.interval C').length c) (memOf d.interval C').length ((memOf d.interval C').map fun s : List UInt8 => Value.string ⟨s.toArray⟩)) => (All_any q (memOf d.interval C').length c (memOf d.interval C') G d w' (own_strs3 h) rfl Hsm2.out (by omega)).mono (fun e' w'' a => allOut_F e.size a))
    rw [HAll.out] at HAl
    have hpl1 : (pairsC d.interval C').length = (pairsC d.interval C).length + 1 := by rw [HPC.out, List.length_append]; rfl
    have HPC2 := Lib.hid (show prCells (pairsC d.interval C') = prCells (pairsC d.interval C) ++ [.string ⟨(slotL AT).toArray⟩, .string ⟨r.toArray⟩] by rw [HPC.out, prCells_snoc])
    have Hpl1 := Lib.hid hpl1
    have Hb11 := Lib.hid hb11
    have HSl := Lib.hid (Slot_ref AT)
    generalize pairsC d.interval C' = P' at *
    generalize pairsC d.interval C = PC at *
    generalize slotL AT = sl at *
    generalize memOf d.interval C' = m' at *
    have hgb : gb < w11.heap.size := Blk.lt hb11
    clear hb11 hw11 hsq1 he11 hpl1
    refine wp_region_mk 200 (Ext.refl w11) (by kernel_rfl) (by kernel_rfl) (by kernel_rfl) ?_
    simp only [List.take_succ_cons, List.take_zero, List.take_nil, List.drop_succ_cons, List.drop_zero, List.drop_nil, List.map_cons, List.map_nil]
    repeat (first
      | (refine wpML_fact (o := ⟨some 120, _, _, _, _, _⟩) (IfcF (RowsF 9 w.heap.size 1 m'.length (m'.map fun s : List UInt8 => Value.string ⟨s.toArray⟩)) 29) (IfcF.stable (RowsF.stable _ _ _ _ _) _) rfl ?_ ?_
         · intro a w' he hr K hK
           obtain ⟨q1, c1, h1, h3⟩ := hr 119 (by simp [Oper.looksAt, Op.operands])
           simp at h1
           go_simp
           exact hK _ _ (Ext.refl _) ⟨_, rfl, q1, c1, rfl, h3⟩
         simp only [setL, List.set_cons_succ, List.set_cons_zero])
      | (refine wpML_det (o := ⟨some 121, _, _, _, _, _⟩) (v := .agg #[.int .i64 G.applied, .int .i64 G.count, .int .i64 G.fin, .int .i64 G.root, .int .i64 G.height, .int .i64 G.splits, .int .i64 G.areas]) rfl ?_ ?_
         · intro a w' he hr K hK
           simp [Reads, Oper.looksAt, Op.operands, factAt, Is] at hr
           exact wp_load_row 28 (.tmp 11) rfl (gb) (by go_simp) _ _ _ _ (he.blk _ _ Hb11.out) hdDesc rfl hdSize (hK _ (Ext.refl _))
         simp only [setL, List.set_cons_succ, List.set_cons_zero])
      | (refine wpML_det (o := ⟨some 122, _, _, _, _, _⟩) (v := .agg #[.int .i64 d.id, .int .i64 d.org, .int .i64 d.format, .int .i64 d.length, .int .i64 d.block, .int .i64 d.keyAt, .int .i64 d.keyLength, .int .i64 d.interval, .int .i64 d.area, .int .i64 d.freeInterval, .int .i64 d.freeArea, .int .i64 d.base, .int .i64 d.altAt, .int .i64 d.altLength, .bool d.unique, .int .i64 d.cls, .string ⟨d.volume.toArray⟩, .string ⟨d.owner.toArray⟩, .int .i64 d.created, .int .i64 d.expires, .bool d.archived]) rfl ?_ ?_
         · intro a w' he hr K hK
           simp [Reads, Oper.looksAt, Op.operands, factAt, Is] at hr
           exact wp_load_row 23 (.tmp 3) rfl (w.heap.size) (by go_simp) _ _ _ _ (he.blk _ _ Hd11.out) dsDesc rfl dsSize (hK _ (Ext.refl _))
         simp only [setL, List.set_cons_succ, List.set_cons_zero])
      | (refine wpML_fact (o := ⟨some 123, _, _, _, _, _⟩) (AllF w11.heap.size (P', 0)) (AllF.stable _ _) rfl ?_ ?_
         · intro a w' he hr K hK
           obtain ⟨y, h1, q1, c1, h2, h3⟩ := hr 120 (by simp [Oper.looksAt, Op.operands, Call.operands])
           simp [Reads, Oper.looksAt, Op.operands, Call.operands, factAt, Is] at hr
           subst h2
           simp at h1
           go_simp
           refine (HAl.out w' he q1 c1 h3).mono ?_
           rintro e w'' ⟨v, rfl, he', hf⟩
           exact hK _ _ he' hf
         simp only [setL, List.set_cons_succ, List.set_cons_zero])
      | (refine wpML_fact (o := ⟨some 124, _, _, _, _, _⟩) (RowsF 61 w11.heap.size 2 P'.length (prCells P')) (RowsF.stable _ _ _ _ _) rfl ?_ ?_
         · intro a w' he hr K hK
           obtain ⟨q1, c1, h1, h3⟩ := hr 116 (by simp [Oper.looksAt, Op.operands])
           simp at h1
           go_simp
           exact hK _ _ (Ext.refl _) ⟨q1, c1, rfl, h3⟩
         simp only [setL, List.set_cons_succ, List.set_cons_zero])
      | (refine wpML_det (o := ⟨some 125, _, _, _, _, _⟩) (v := .int .i64 0) rfl ?_ ?_
         · intro a w' he hr K hK
           obtain ⟨q1, c1, h1, h3⟩ := hr 116 (by simp [Oper.looksAt, Op.operands])
           simp at h1
           go_simp
           exact hK _ (Ext.refl _)
         simp only [setL, List.set_cons_succ, List.set_cons_zero])
      | (refine wpML_move _ _ rfl (by first | exact .inl rfl | exact .inr rfl) rfl (by first | exact Is.stable _ | exact AllF.stable _ _ | exact RowsF.stable _ _ _ _ _ | exact AppF.stable _ | exact WrF.stable _ | exact PtrF.stable _ _ | exact IfcF.stable (Fresh.stable _ _ _) _ | exact PairF.stable (RowF.stable _ _ _ _) _ | exact RowF.stable _ _ _ _ | exact Fresh.stable _ _ _) ?_
         simp only [setL, List.set_cons_succ, List.set_cons_zero, List.getD_cons_succ, List.getD_cons_zero])
      | (refine wpML_moveC _ rfl (by first | exact .inl rfl | exact .inr rfl) ?_
         simp only [setL, List.set_cons_succ, List.set_cons_zero])
      | (apply wpML_det rfl
         · intro a w' he hr K hK
           simp [Reads, Oper.looksAt, Op.operands, Call.operands, factAt, Is] at hr
           have hx := he.cell
           go_simp
           try go_bits
           try (rw [if_neg (by omega)]; go_simp)
           first
             | exact hK _ (Ext.refl _)
         simp only [setL, List.set_cons_succ, List.set_cons_zero])
      | (refine wpML_fact (o := ⟨some 119, _, _, _, _, _⟩) (RowsF 9 w.heap.size 1 m'.length (m'.map fun s : List UInt8 => Value.string ⟨s.toArray⟩)) (RowsF.stable _ _ _ _ _) rfl ?_ ?_
         · intro a w' he hr K hK
           simp [Reads, Oper.looksAt, Op.operands, Call.operands, factAt, Is] at hr
           go_simp
           refine ((HPu.out w' he)).mono ?_
           rintro e w'' ⟨v, rfl, he', hf⟩
           exact hK _ _ he' hf
         simp only [setL, List.set_cons_succ, List.set_cons_zero])
      | (apply wpML_det rfl
         · intro a w' he hr K hK
           simp [Reads, Oper.looksAt, Op.operands, Call.operands, factAt, Fresh] at hr
           obtain ⟨b, hr1, hr2⟩ := hr
           go_simp
           exact hK _ (Ext.refl _)
         simp only [setL, List.set_cons_succ, List.set_cons_zero]))
    intro w2 he2
    repeat (first | with_reducible refine rest_is _ _ _ _ ?_ | (with_reducible refine rest_fact _ _ _ _ ?_; intro _ _) | with_reducible refine rest_end _ _ ?_)
    simp only [List.reverse_cons, List.reverse_nil, List.nil_append, List.cons_append]
    rename_i x15 h15 x116 h116 x119 h119 x120 h120 x123 h123 x124 h124
    clear h116 h119 h120 h123 h124
    obtain ⟨q15, c15, rfl, hown15⟩ := h15
    have Hown15 := Lib.hid hown15
    have Hp12 := Lib.hid (own_ext Hp11.out he2)
    have HE12 := Lib.hid (HE11.out.trans he2)
    have hz12 := he2.size
    clear hown15 he2
    go_wp2_with (first | (go_at_call 27; refine (HSl.out _).mono ?_; rintro e w13 ⟨rfl, he13⟩) | (at_builtin; go_must (refine wpList_appW rfl (.tmp 130) (.tmp 135) 40 61 rfl w.heap.size (.agg #[.string ByteArray.empty, .string ByteArray.empty]) 2 32 Tryd.underlying40 infoPair rfl (by decide) _ PC.length _ rfl (own_ext (own_ext Hp12.out he13) (Ext.alloc _ _)) _ [.string ⟨sl.toArray⟩, .string ⟨r.toArray⟩] rfl (Blk.new w13 _) rfl (by intro u hu; simp at hu; rcases hu with rfl | rfl <;> rfl) (by omega) (by decide) (by have := HE12.out.size; have := he13.size; simp; omega) ?_; intro v8 w14 hout8 hgr8)))
    obtain ⟨q9, k9, rfl⟩ := own_slice hout8
    rw [← HPC2.out] at hout8
    obtain ⟨_, _, eq1, hB, _⟩ := own_prs hout8
    cases eq1
    have hE13 := (HE12.out.trans he13).trans (Ext.alloc w13 (.cells #[.string ⟨sl.toArray⟩, .string ⟨r.toArray⟩] 61))
    obtain ⟨_, _, eq2, hA, _⟩ := own_prs (own_older (own_ext (own_ext Hown15.out he13) (Ext.alloc w13 _)) hgr8 Hp11.out (Nat.le_refl _))
    cases eq2
    have hE14 : Ext w w14 := Ext.trans' hE13 (Below.of_grown (B := w.heap.size) hgr8 (own_ext (own_ext Hp12.out he13) (Ext.alloc w13 _)) (Nat.le_refl _) hE13.size)
    refine (SamePairs_any q15 q9 c15 P'.length k9 (PC.length + 1) P' P' w14 hA hB rfl Hpl1.out (by have := Hpl1.out; omega) (by have := Hpl1.out; omega)).mono ?_
    rintro e w15 ⟨rfl, n15, rfl⟩
    go_wp2_with fail
    go_ret
    exact ⟨by simp, hE14.trans (Ext.drewN _ _)⟩
theorem EntryseqKeeps_any (p : Option Addr) (cap n : Nat) (L : Recs) (d : DS) (r : List UInt8) (w : World) (hs : Strs w p L) (hn : L.length = n) (hcap : n ≤ cap) (hcm : cap ≤ maxLen) :
    Calls Tryd.prog 6 #[.agg #[.int .i64 d.id, .int .i64 d.org, .int .i64 d.format, .int .i64 d.length, .int .i64 d.block, .int .i64 d.keyAt, .int .i64 d.keyLength, .int .i64 d.interval, .int .i64 d.area, .int .i64 d.freeInterval, .int .i64 d.freeArea, .int .i64 d.base, .int .i64 d.altAt, .int .i64 d.altLength, .bool d.unique, .int .i64 d.cls, .string ⟨d.volume.toArray⟩, .string ⟨d.owner.toArray⟩, .int .i64 d.created, .int .i64 d.expires, .bool d.archived], .slice p n cap, .string ⟨r.toArray⟩] w fun e w' => e = .returned (.bool true) ∧ Ext w w' := by
  cases hc : keepsB d L r
  · exact EntryseqKeeps_no p cap n L d r w hs hn (by omega) hc
  · unfold keepsB at hc
    simp only [Bool.and_eq_true, decide_eq_true_eq] at hc
    obtain ⟨⟨⟨⟨h1, h2⟩, h3⟩, h4⟩, h5⟩ := hc
    exact EntryseqKeeps_yes p cap n L d r w hs hn (by omega) h1 h2 h3 h4 h5
end Go.Proofs.YtkhlglkipeoalaaDoor
