/- The walks of the reference's below and Bases. -/
import Derived.Test.YtolmoknjmdmpgaaGreatDS
import Derived.Test.YtolmoknjmdmpgaaGreatFI
set_option linter.unusedSimpArgs false
set_option linter.unusedVariables false
namespace Dsd
theorem belowGo_len {g : Int → Int → List Int × Int} {most : Int} : ∀ (L : List Ent) (out : List Int), (out.length : Int) ≤ most → ((belowGo g most out L).1.length : Int) ≤ most
  | [], out, h => h
  | x :: L, out, h => by
    unfold belowGo
    split
    · simp; omega
    · split
      · simp; omega
      · exact belowGo_len L _ (by omega)
theorem belowD_len (M : List (List UInt8)) (d : DS) : ∀ (l : Nat) (page most : Int), 0 ≤ most → ((belowD M d l page most).1.length : Int) ≤ most + 1
  | 0, page, most, h => by simp [belowD]; omega
  | l + 1, page, most, h => by
    unfold belowD
    split
    · simp; omega
    · have := belowGo_len (g := belowD M d l) (most := most) (loadD M d page ((l + 1 : Nat) : Int)).1.ents [] (by simpa using h)
      omega
theorem belowGo_step {g : Int → Int → List Int × Int} {most : Int} {E : List Ent} {k : Nat} (hk : k < E.length) (out : List Int) :
    belowGo g most out (E.drop k) = if (g (entAt E k).2 (most - (out.length : Int))).2 ≠ 0 then ([], (g (entAt E k).2 (most - (out.length : Int))).2)
      else if most < ((out ++ (g (entAt E k).2 (most - (out.length : Int))).1).length : Int) then ([], 8)
      else belowGo g most (out ++ (g (entAt E k).2 (most - (out.length : Int))).1) (E.drop (k + 1)) := by
  have e : E.drop k = entAt E k :: E.drop (k + 1) := by
    rw [List.drop_eq_getElem_cons hk]
    simp [entAt, List.getD, hk]
  rw [e, belowGo]
end Dsd
namespace Go.Proofs.YtolmoknjmdmpgaaGreat
open Go.RowKit Dsd
/-- append(d, s...) of numbers, where s may be nil. -/
theorem wpList_appI {w : World} {ops : Array Oper} {rest : List Oper} {o : Oper} {a : Act} {Q : Exit → Act → World → Prop} (hgd : Region.wanted o (yielded ops a.tmps) = true) (d s : Operand)
    (ho : o.op = .call { callee := .builtin .append, args := #[d, s], argTypes := #[30, 30] }) (base : Nat) (v : Value) (n : Nat) (xs : List Value) (hv : a.eval d = v) (hown : w.ownsRow base 3 1 v n xs) (p : Option Addr) (m c : Nat) (news : List Value) (hs : a.eval s = .slice p m c) (hl : news.length = m) (hc : Cells w p news)
    (h1 : ∀ u ∈ news, u.oneCell' = true) (hn : n + m ≤ 100000000) (hbase : base ≤ w.heap.size)
    (h : ∀ v' w', w'.ownsRow base 3 1 v' (n + m) (xs ++ news) → w.grownBy w' v.ownBlock → wpList Tryz.prog ops Q rest (a.put o.dst v') w') : wpList Tryz.prog ops Q (o :: rest) a w := by
  by_cases hm : m = 0
  · subst hm
    obtain rfl : news = [] := List.eq_nil_of_length_eq_zero hl
    obtain ⟨q, k, rfl⟩ := own_slice hown
    have hle : n ≤ k := by
      rcases hown.2 with ⟨e, h0⟩ | ⟨g, cap, cur, e, _, _, h2, _⟩
      · cases e; omega
      · simp only [Value.slice.injEq] at e
        obtain ⟨_, _, rfl⟩ := e
        exact h2
    obtain ⟨i0, hi0, hz0, hzs, hzb⟩ := info_parts infoInt
    have hr : (Builtin.append_ #[30, 30] o.type #[.slice q n k, .slice p 0 c]).run Tryz.prog w = .ok (.slice q n k) w := by
      cases p <;> cases q <;> simp [Builtin.append_, run_underlying Tryz.underlying30, Go.sizeOf, typeInfo, hi0, Builtin.lenOf, Builtin.firstCells, loadCells, loadCellsFrom, Go.storeCells, hle]
    refine BigFrame.wpList_want hgd fun K hK => Lib.wp_append_run w d s _ _ ho _ _ hv hs _ _ hr (hK _ _ (h _ _ (by simpa using hown) ⟨rfl, rfl, rfl, Nat.le_refl _, fun _ _ _ => rfl⟩))
  · obtain ⟨ad, rfl⟩ : ∃ ad, p = some ad := by
      obtain ⟨b, off, h, _⟩ := hc.at 0 (by omega)
      exact ⟨_, h⟩
    exact wpList_appk hgd d s 30 3 ho base (.int .i64 0) 1 8 Tryz.underlying30 infoInt rfl (by decide) v n xs hv hown (some ad) m c news hs rfl (by omega) hc h1 hn (by decide) hbase h
/-- What below hands back. -/
def BelOut (L : List Int) (er : Int) (w : World) (e : Ending) (w' : World) : Prop := Ext w w' ∧ ∃ q c, e = .returned (.tuple #[.slice q L.length c, .int .i64 er]) ∧ w'.ownsRow w.heap.size 3 1 (.slice q L.length c) L.length (intC L)
theorem bel_no {w w' : World} {e : Ending} {c : Int} (h1 : Ext w w') (h2 : e = .returned (.tuple #[.slice none 0 0, .int .i64 c])) : BelOut [] c w e w' := ⟨h1, none, 0, h2, rfl, .inl ⟨rfl, rfl⟩⟩
set_option maxRecDepth 100000 in
set_option maxHeartbeats 4000000 in
theorem belowR_any (p : Option Addr) (cap n : Nat) (m : List (List UInt8)) (d : DS) (hn : m.length = n) (hm : Small m) : ∀ (l : Nat), l ≤ 6 → ∀ (page most : Int) (w : World), Strs w p m → 0 ≤ most → most ≤ 4096 →
    Calls Tryz.prog 34 #[.slice p n cap, .agg #[.int .i64 d.id, .int .i64 d.org, .int .i64 d.format, .int .i64 d.length, .int .i64 d.block, .int .i64 d.keyAt, .int .i64 d.keyLength, .int .i64 d.interval, .int .i64 d.area, .int .i64 d.freeInterval, .int .i64 d.freeArea, .int .i64 d.base, .int .i64 d.altAt, .int .i64 d.altLength, .bool d.unique, .int .i64 d.cls, .string ⟨d.volume.toArray⟩, .string ⟨d.owner.toArray⟩, .int .i64 d.created, .int .i64 d.expires, .bool d.archived], .int .i64 page, .int .i64 ((l : Nat) : Int), .int .i64 most] w (BelOut (belowD m d l page most).1 (belowD m d l page most).2 w) := by
  intro l
  induction l with
  | zero =>
    intro _ page most w hs h0 h1
    have hx := (Ext.alloc w (.cells #[.int .i64 d.id, .int .i64 d.org, .int .i64 d.format, .int .i64 d.length, .int .i64 d.block, .int .i64 d.keyAt, .int .i64 d.keyLength, .int .i64 d.interval, .int .i64 d.area, .int .i64 d.freeInterval, .int .i64 d.freeArea, .int .i64 d.base, .int .i64 d.altAt, .int .i64 d.altLength, .bool d.unique, .int .i64 d.cls, .string ⟨d.volume.toArray⟩, .string ⟨d.owner.toArray⟩, .int .i64 d.created, .int .i64 d.expires, .bool d.archived] 26)).trans (Ext.alloc _ (.cells #[.int .i64 page] 3))
    have hb : Blk ((w.alloc (.cells #[.int .i64 d.id, .int .i64 d.org, .int .i64 d.format, .int .i64 d.length, .int .i64 d.block, .int .i64 d.keyAt, .int .i64 d.keyLength, .int .i64 d.interval, .int .i64 d.area, .int .i64 d.freeInterval, .int .i64 d.freeArea, .int .i64 d.base, .int .i64 d.altAt, .int .i64 d.altLength, .bool d.unique, .int .i64 d.cls, .string ⟨d.volume.toArray⟩, .string ⟨d.owner.toArray⟩, .int .i64 d.created, .int .i64 d.expires, .bool d.archived] 26)).alloc (.cells #[.int .i64 page] 3)) (w.heap.size + 1) (.cells #[.int .i64 page] 3) := Blk.new1 _ _ _ (by simp)
    have HO : Hid (BelOut [page] 0 w (.returned (.tuple #[.slice (some ⟨w.heap.size + 1, 0, none⟩) 1 1, .int .i64 0])) ((w.alloc (.cells #[.int .i64 d.id, .int .i64 d.org, .int .i64 d.format, .int .i64 d.length, .int .i64 d.block, .int .i64 d.keyAt, .int .i64 d.keyLength, .int .i64 d.interval, .int .i64 d.area, .int .i64 d.freeInterval, .int .i64 d.freeArea, .int .i64 d.base, .int .i64 d.altAt, .int .i64 d.altLength, .bool d.unique, .int .i64 d.cls, .string ⟨d.volume.toArray⟩, .string ⟨d.owner.toArray⟩, .int .i64 d.created, .int .i64 d.expires, .bool d.archived] 26)).alloc (.cells #[.int .i64 page] 3))) := Lib.hid ⟨hx, _, 1, rfl, own_of_blk (xs := [.int .i64 page]) hb (by omega) rfl (by show 1 ≤ maxLen; decide)⟩
    show Calls _ _ _ _ (BelOut [page] 0 w)
    clear hx hb hs
    generalize BelOut [page] 0 w = OUT at *
    go_enter Tryz.func34, Tryz.ntmps34
    go_wp2
    exact HO.out
  | succ l ih =>
    intro hl6 page most w hs hm0 hm1
    have hsz := (Ext.alloc w (.cells #[.int .i64 d.id, .int .i64 d.org, .int .i64 d.format, .int .i64 d.length, .int .i64 d.block, .int .i64 d.keyAt, .int .i64 d.keyLength, .int .i64 d.interval, .int .i64 d.area, .int .i64 d.freeInterval, .int .i64 d.freeArea, .int .i64 d.base, .int .i64 d.altAt, .int .i64 d.altLength, .bool d.unique, .int .i64 d.cls, .string ⟨d.volume.toArray⟩, .string ⟨d.owner.toArray⟩, .int .i64 d.created, .int .i64 d.expires, .bool d.archived] 26))
    have hdb := Blk.new w (.cells #[.int .i64 d.id, .int .i64 d.org, .int .i64 d.format, .int .i64 d.length, .int .i64 d.block, .int .i64 d.keyAt, .int .i64 d.keyLength, .int .i64 d.interval, .int .i64 d.area, .int .i64 d.freeInterval, .int .i64 d.freeArea, .int .i64 d.base, .int .i64 d.altAt, .int .i64 d.altLength, .bool d.unique, .int .i64 d.cls, .string ⟨d.volume.toArray⟩, .string ⟨d.owner.toArray⟩, .int .i64 d.created, .int .i64 d.expires, .bool d.archived] 26)
    have HL := Lib.hid (LoadR22_any p cap n m d page ((l + 1 : Nat) : Int))
    obtain ⟨T, hT⟩ : ∃ T, T = belowD m d (l + 1) page most := ⟨_, rfl⟩
    rw [← hT]
    have Hs := Lib.hid hs
    have HIh := Lib.hid (fun pg ms W hh h1 h2 => ih (by omega) pg ms W hh h1 h2)
    have HNo : Hid (∀ e w' c, T = ([], c) → Ext w w' → e = .returned (.tuple #[.slice none 0 0, .int .i64 c]) → BelOut T.1 T.2 w e w') := Lib.hid (fun e w' c hc h1 h2 => by rw [hc]; exact bel_no h1 h2)
    have HYes : Hid (∀ e w' L q c, T = (L, 0) → Ext w w' → e = .returned (.tuple #[.slice q L.length c, .int .i64 0]) → w'.ownsRow w.heap.size 3 1 (.slice q L.length c) L.length (intC L) → BelOut T.1 T.2 w e w') := Lib.hid (fun e w' L q c hc h1 h2 h3 => by rw [hc]; exact ⟨h1, q, c, h2, h3⟩)
    unfold belowD at hT
    obtain ⟨n1, hn1⟩ : ∃ n1, n1 = l + 1 := ⟨_, rfl⟩
    rw [← hn1] at HL hT ⊢
    have hne : (((n1 : Nat) : Int) == 0) = false := by simp; omega
    have hnz : ¬ n1 = 0 := by omega
    have hw1 : IntKind.i64.wrap (((n1 : Nat) : Int) - 1) = ((l : Nat) : Int) := by rw [IntWalk.i64_in _ (by omega)]; omega
    have Hn1 := Lib.hid hn1
    clear hn1 hs ih
    generalize BelOut T.1 T.2 w = OUT at *
    have HL2 : Hid (∀ W, Ext w W → Calls Tryz.prog 30 #[.slice p n cap, .agg #[.int .i64 d.id, .int .i64 d.org, .int .i64 d.format, .int .i64 d.length, .int .i64 d.block, .int .i64 d.keyAt, .int .i64 d.keyLength, .int .i64 d.interval, .int .i64 d.area, .int .i64 d.freeInterval, .int .i64 d.freeArea, .int .i64 d.base, .int .i64 d.altAt, .int .i64 d.altLength, .bool d.unique, .int .i64 d.cls, .string ⟨d.volume.toArray⟩, .string ⟨d.owner.toArray⟩, .int .i64 d.created, .int .i64 d.expires, .bool d.archived], .int .i64 page, .int .i64 ((n1 : Nat) : Int)] W (Load22 m d page ((n1 : Nat) : Int) W)) := Lib.hid (fun W e => HL.out W (Hs.out.ext e) hn hm)
    unfold Load22 at HL2
    by_cases hE : (loadD m d page ((n1 : Nat) : Int)).2 = 0
    · have hsp := (load_spec hE).1
      rw [hE] at HL2
      rw [if_neg (by rw [hE]; simp)] at hT
      have hl120 := hsp.l2
      clear hsp hE HL
      generalize (loadD m d page ((n1 : Nat) : Int)).1 = nd at *
      have HT := Lib.hid hT
      clear hT
      go_enter Tryz.func34, Tryz.ntmps34
      go_upto_region 1 with (fail)
      refine wp_name (fun w0 => Ext w w0 ∧ DsAt w0 w.heap.size d) ⟨hsz, hdb⟩ ?_
      clear hsz hdb
      rintro w0 ⟨hx0, hd0⟩
      go_upto_region 6 with (first
        | ((with_reducible (show wpList _ _ _ (⟨some 24, _, _, _, _, _⟩ :: _) _ _)); refine wpList_ds (o := ⟨some 24, _, _, _, _, _⟩) rfl (.tmp 6) rfl _ rfl d hd0 ?_)
        | (go_at_call 30; refine (HL2.out _ hx0).mono ?_; rintro e w1 ⟨he1, q1, c1, rfl, ho1⟩)
        | (refine wpList_put rfl 53 (.tmp 12) (.tmp 28) rfl _ #[.int .i64 nd.level, .int .i64 nd.next, .slice q1 nd.ents.length c1] rfl rfl _ _ (Blk.new w1 _) ndSize rfl (by simp [Value.oneCell']) ?_; intro w2 hn2 hc2; have hx2 := hc2.ext (Ext.alloc w1 _) (Nat.le_refl _)))
      have hX2 := (hx0.trans he1).trans hx2
      refine wp_name (fun w3 => Ext w w3 ∧ DsAt w3 w.heap.size d ∧ Blk w3 w1.heap.size (.cells #[.int .i64 nd.level, .int .i64 nd.next, .slice q1 nd.ents.length c1] 53) ∧ w3.ownsRow 0 75 2 (.slice q1 nd.ents.length c1) nd.ents.length (entCells nd.ents)) ⟨hX2, (hd0.ext he1).ext hx2, hn2, own_le (own_chgT (own_ext ho1 (Ext.alloc w1 _)) (by decide) (Blk.new w1 _) hc2) (Nat.zero_le _)⟩ ?_
      clear hx0 hd0 he1 ho1 hn2 hc2 hx2 hX2
      generalize w1.heap.size = nb at *
      clear w2 w1
      rintro w3 ⟨hx3, hd3, hn3, ho3⟩
      have hm3 := World.ownsRow_made (base := w.heap.size) (e := 3) (size := 1) w3 #[] 0 hx3.size (by simp) rfl
      have hxA := Ext.alloc w3 (.cells #[] 3)
      go_upto_region 8 with (fail)
      go_loopw [14, 15] (fun out i wr => ∃ (k : Nat) (L : List Int), k ≤ nd.ents.length ∧ (L.length : Int) ≤ most ∧ i = .int .i64 k ∧ T = belowGo (belowD m d l) most L (nd.ents.drop k) ∧ Ext w wr ∧ DsAt wr w.heap.size d ∧ Blk wr nb (.cells #[.int .i64 nd.level, .int .i64 nd.next, .slice q1 nd.ents.length c1] 53) ∧ wr.ownsRow 0 75 2 (.slice q1 nd.ents.length c1) nd.ents.length (entCells nd.ents) ∧ ∃ q c, out = .slice q L.length c ∧ wr.ownsRow w.heap.size 3 1 (.slice q L.length c) L.length (intC L)) (fun _ i _ => nd.ents.length - (intOf i).toNat)
      case atStart => exact ⟨0, [], Nat.zero_le _, by simpa using hm0, rfl, HT.out, hx3.trans hxA, hd3.ext hxA, hxA.blk _ _ hn3, own_ext ho3 hxA, some ⟨w3.heap.size, 0, none⟩, 0, rfl, hm3⟩
      case round =>
        clear hx3 hd3 hn3 ho3 hm3 hxA
        obtain ⟨k, L, hk, hLm, rfl, hTk, hx, hd, hnb, ho, q, c, rfl, hown⟩ := hrel
        have c52 : wr.cell? ⟨nb, 2, none⟩ = some (.slice q1 nd.ents.length c1) := Blk.val hnb 2 _ rfl
        have l52 := Blk.lt hnb
        have HQ := Lib.hid (And.intro hx (And.intro hd (And.intro hnb (And.intro ho hown))))
        have hldr := Blk.lt hd
        by_cases hlt : k < nd.ents.length
        · have hltI : (k : Int) < nd.ents.length := by omega
          rw [belowGo_step hlt] at hTk
          obtain ⟨g, rfl, hgl, hcc⟩ : ∃ g, q1 = some ⟨g, 0, none⟩ ∧ g < wr.heap.size ∧ wr.cell? ⟨g, k * 2 + 1, none⟩ = some (.int .i64 (entAt nd.ents k).2) := by
            obtain ⟨g, off, hq, hgl, hcc⟩ := (own_cellsND ho).at k hlt
            obtain ⟨g', _, hq', _⟩ := own_parts ho (by omega)
            rw [hq'] at hq
            simp only [Option.some.injEq, Addr.mk.injEq, and_true] at hq
            obtain ⟨rfl, rfl⟩ := hq
            have := (hcc k hlt).2
            rw [Nat.zero_add] at this
            exact ⟨g', hq', hgl, this⟩
          have hms : 0 ≤ most - (L.length : Int) := by omega
          have HRc := Lib.hid (fun W (e : Ext wr W) => HIh.out (entAt nd.ents k).2 (most - (L.length : Int)) W (Hs.out.ext (hx.trans e)) hms (by omega))
          have hrl := belowD_len m d l (entAt nd.ents k).2 (most - (L.length : Int)) hms
          have hwm : IntKind.i64.wrap (most - (L.length : Int)) = most - (L.length : Int) := IntWalk.i64_in _ (by omega)
          generalize hpg : (entAt nd.ents k).2 = pg at *
          generalize belowD m d l pg (most - (L.length : Int)) = r at *
          obtain ⟨rl, re⟩ := r
          simp only at hTk hrl HRc
          have HRc2 : Hid (∀ W, Ext wr W → Calls Tryz.prog 34 #[.slice p n cap, .agg #[.int .i64 d.id, .int .i64 d.org, .int .i64 d.format, .int .i64 d.length, .int .i64 d.block, .int .i64 d.keyAt, .int .i64 d.keyLength, .int .i64 d.interval, .int .i64 d.area, .int .i64 d.freeInterval, .int .i64 d.freeArea, .int .i64 d.base, .int .i64 d.altAt, .int .i64 d.altLength, .bool d.unique, .int .i64 d.cls, .string ⟨d.volume.toArray⟩, .string ⟨d.owner.toArray⟩, .int .i64 d.created, .int .i64 d.expires, .bool d.archived], .int .i64 pg, .int .i64 ((l : Nat) : Int), .int .i64 (most - (L.length : Int))] W fun e w' => Ext W w' ∧ ∃ v, e = .returned v ∧ PairF (RowF 3 0 rl.length (intC rl)) (.int .i64 re) v w') := Lib.hid (fun W e => (HRc.out W e).mono (fun e' w' ⟨a1, q, c, a2, a3⟩ => ⟨a1, _, a2, _, rfl, q, c, rfl, own_le a3 (Nat.zero_le _)⟩))
          have HTk := Lib.hid hTk
          have hrl2 : rl.length ≤ 5000 := by omega
          have hLl : L.length ≤ 4096 := by omega
          have Hlm := Lib.hid hLm
          clear hTk hx hd hnb ho hown HRc hrl hpg hms hLm
          go_upto_region 10 with (fail)
          refine wp_region_mk 200 (Ext.refl wr) (by kernel_rfl) (by kernel_rfl) (by kernel_rfl) ?_
          simp only [List.take_succ_cons, List.take_zero, List.take_nil, List.drop_succ_cons, List.drop_zero, List.drop_nil, List.map_cons, List.map_nil]
          repeat (first
            | (refine wpML_det (o := ⟨some 43, _, _, _, _, _⟩) (v := .agg #[.int .i64 d.id, .int .i64 d.org, .int .i64 d.format, .int .i64 d.length, .int .i64 d.block, .int .i64 d.keyAt, .int .i64 d.keyLength, .int .i64 d.interval, .int .i64 d.area, .int .i64 d.freeInterval, .int .i64 d.freeArea, .int .i64 d.base, .int .i64 d.altAt, .int .i64 d.altLength, .bool d.unique, .int .i64 d.cls, .string ⟨d.volume.toArray⟩, .string ⟨d.owner.toArray⟩, .int .i64 d.created, .int .i64 d.expires, .bool d.archived]) rfl ?_ ?_
               · intro a w' he hr K hK
                 simp [Reads, Oper.looksAt, Op.operands, factAt, Is] at hr
                 exact wp_load_row 26 (.tmp 6) rfl (w.heap.size) (by go_simp) _ _ _ _ (he.blk _ _ HQ.out.2.1) dsDesc rfl dsSize (hK _ (Ext.refl _))
               simp only [setL, List.set_cons_succ, List.set_cons_zero])
            | (refine wpML_fact (o := ⟨some 56, _, _, _, _, _⟩) (PairF (RowF 3 0 rl.length (intC rl)) (.int .i64 re)) (PairF.stable (RowF.stable _ _ _ _) _) rfl ?_ ?_
               · intro a w' he hr K hK
                 simp [Reads, Oper.looksAt, Op.operands, Call.operands, factAt, Is] at hr
                 go_simp
                 refine (HRc2.out _ he).mono ?_
                 rintro e w'' ⟨he', v, rfl, hf⟩
                 exact hK _ _ he' hf
               simp only [setL, List.set_cons_succ, List.set_cons_zero])
            | (refine wpML_fact (o := ⟨some 57, _, _, _, _, _⟩) (RowF 3 0 rl.length (intC rl)) (RowF.stable _ _ _ _) rfl ?_ ?_
               · intro a w' he hr K hK
                 obtain ⟨y, h1, h9⟩ := hr 41 (by simp [Oper.looksAt, Op.operands])
                 simp at h1
                 go_simp
                 exact hK _ _ (Ext.refl _) h9
               simp only [setL, List.set_cons_succ, List.set_cons_zero])
            | (refine wpML_det (o := ⟨some 58, _, _, _, _, _⟩) (v := .int .i64 re) rfl ?_ ?_
               · intro a w' he hr K hK
                 obtain ⟨y, h1, h9⟩ := hr 41 (by simp [Oper.looksAt, Op.operands])
                 simp at h1
                 go_simp
                 exact hK _ (Ext.refl _)
               simp only [setL, List.set_cons_succ, List.set_cons_zero])
            | (refine wpML_move _ _ rfl (by first | exact .inl rfl | exact .inr rfl) rfl (by first | exact Is.stable _ | exact AppF.stable _ | exact WrF.stable _ | exact PtrF.stable _ _ | exact IfcF.stable (Fresh.stable _ _ _) _ | exact PairF.stable (RowF.stable _ _ _ _) _ | exact RowF.stable _ _ _ _ | exact Fresh.stable _ _ _) ?_
               simp only [setL, List.set_cons_succ, List.set_cons_zero, List.getD_cons_succ, List.getD_cons_zero])
            | (refine wpML_moveC _ rfl (by first | exact .inl rfl | exact .inr rfl) ?_
               simp only [setL, List.set_cons_succ, List.set_cons_zero])
            | (apply wpML_det rfl
               · intro a w' he hr K hK
                 simp [Reads, Oper.looksAt, Op.operands, Call.operands, factAt, Is] at hr
                 have hx := he.cell
                 go_simp
                 try go_bits
                 try (rw [if_neg (by omega)]; go_simp)
                 first
                   | exact hK _ (Ext.refl _)
               simp only [setL, List.set_cons_succ, List.set_cons_zero])
            | (apply wpML_det rfl
               · intro a w' he hr K hK
                 simp [Reads, Oper.looksAt, Op.operands, Call.operands, factAt, Fresh] at hr
                 obtain ⟨b, hr1, hr2⟩ := hr
                 go_simp
                 exact hK _ (Ext.refl _)
               simp only [setL, List.set_cons_succ, List.set_cons_zero]))
          intro w2 he2
          repeat (first | with_reducible refine rest_is _ _ _ _ ?_ | (with_reducible refine rest_fact _ _ _ _ ?_; intro _ _) | with_reducible refine rest_end _ _ ?_)
          simp only [List.reverse_cons, List.reverse_nil, List.nil_append, List.cons_append]
          rename_i x16 h16 x41 h41 x56 h56 x57 h57
          obtain ⟨ql, cl, rfl, hol⟩ := h16
          have HQ2 := Lib.hid (And.intro (HQ.out.1.trans he2) (And.intro (HQ.out.2.1.ext he2) (And.intro (he2.blk _ _ HQ.out.2.2.1) (And.intro (own_ext HQ.out.2.2.2.1 he2) (own_ext HQ.out.2.2.2.2 he2)))))
          have Hol : Hid (Cells w2 ql (intC rl)) := Lib.hid (path_ints hol)
          have hsw := HQ2.out.1.size
          clear h41 h56 h57 hol he2 hcc hgl c52 l52 HQ hldr HRc2
          by_cases hre : re = 0
          · have hri : (re != 0) = false := by simp [hre]
            have hT2 := HTk.out
            rw [if_neg (by simp [hre])] at hT2
            subst hre
            by_cases hmo : most < ((L ++ rl).length : Int)
            · have hmI : most < ((L.length + rl.length : Nat) : Int) := by simpa using hmo
              have hmI2 : most < (L.length : Int) + (rl.length : Int) := by simpa using hmo
              have HO := Lib.hid (fun e w' => HNo.out e w' 8 (by rw [hT2, if_pos hmo]))
              clear hT2 hmo HTk
              go_wp2_with (at_builtin; refine wpList_appI (o := ⟨some 64, _, _, _, _, _⟩) rfl (.tmp 62) (.tmp 63) rfl w.heap.size _ L.length _ rfl HQ2.out.2.2.2.2 ql rl.length cl (intC rl) rfl (by simp [intC]) Hol.out (intC_one rl) (by omega) hsw ?_; intro v8 w8 ho8 hg8; have r8 := rty_app (T := 3) hg8 HQ2.out.2.2.2.2 hsw; obtain ⟨q8, k8, rfl⟩ := own_slice ho8; have Hr8 := Lib.hid r8; have Ho8 := Lib.hid ho8; clear r8 ho8 hg8)
              exact HO.out _ _ (Ext.trans' HQ2.out.1 Hr8.out.1) rfl
            · have hmI : decide (most < ((L.length + rl.length : Nat) : Int)) = false := decide_eq_false (by simpa using hmo)
              have hmI2 : decide (most < (L.length : Int) + (rl.length : Int)) = false := decide_eq_false (by simpa using hmo)
              have HT2 : Hid (T = belowGo (belowD m d l) most (L ++ rl) (nd.ents.drop (k + 1))) := Lib.hid (by rw [hT2, if_neg hmo])
              have Hmo := Lib.hid hmo
              clear hT2 hmo HTk
              go_wp2_with (at_builtin; refine wpList_appI (o := ⟨some 64, _, _, _, _, _⟩) rfl (.tmp 62) (.tmp 63) rfl w.heap.size _ L.length _ rfl HQ2.out.2.2.2.2 ql rl.length cl (intC rl) rfl (by simp [intC]) Hol.out (intC_one rl) (by omega) hsw ?_; intro v8 w8 ho8 hg8; have r8 := rty_app (T := 3) hg8 HQ2.out.2.2.2.2 hsw; obtain ⟨q8, k8, rfl⟩ := own_slice ho8; have Hr8 := Lib.hid r8; have Ho8 := Lib.hid ho8; clear r8 ho8 hg8)
              go_roundw
              case rel => exact ⟨k + 1, L ++ rl, by omega, by have := Hmo.out; omega, by go_num, HT2.out, Ext.trans' HQ2.out.1 Hr8.out.1, Hr8.out.2 _ _ _ (by decide) HQ2.out.2.1, Hr8.out.2 _ _ _ (by decide) HQ2.out.2.2.1, own_rty HQ2.out.2.2.2.1 (by decide) Hr8.out, q8, k8, by rw [List.length_append], by rw [List.length_append, show intC (L ++ rl) = intC L ++ intC rl by simp [intC]]; exact Ho8.out⟩
              case measure => simp [intOf]; omega
          · have hri : (re != 0) = true := by simpa using hre
            have HO := Lib.hid (fun e w' => HNo.out e w' re (by rw [HTk.out, if_pos hre]))
            clear HTk hre
            go_wp2_with fail
            exact HO.out _ _ HQ2.out.1 rfl
        · have hltI : decide ((k : Int) < nd.ents.length) = false := decide_eq_false (by omega)
          have hltN : ¬ k < nd.ents.length := hlt
          rw [List.drop_eq_nil_of_le (by omega)] at hTk
          have HO := Lib.hid (fun e w' q c => HYes.out e w' L q c hTk)
          clear hTk hlt hx hd hnb ho hown
          go_wp2_with fail
          exact HO.out _ _ q c HQ.out.1 rfl HQ.out.2.2.2.2
    · have HO := Lib.hid (fun e w' => HNo.out e w' _ (by rw [if_pos hE] at hT; exact hT))
      have hei : ((loadD m d page ((n1 : Nat) : Int)).2 != 0) = true := by simpa using hE
      clear hT hE HNo HYes HL
      generalize (loadD m d page ((n1 : Nat) : Int)).2 = er at *
      generalize (loadD m d page ((n1 : Nat) : Int)).1 = nd at *
      go_enter Tryz.func34, Tryz.ntmps34
      go_upto_region 1 with (fail)
      refine wp_name (fun w0 => Ext w w0 ∧ DsAt w0 w.heap.size d) ⟨hsz, hdb⟩ ?_
      clear hsz hdb
      rintro w0 ⟨hx0, hd0⟩
      go_wp2_with (first
        | ((with_reducible (show wpList _ _ _ (⟨some 24, _, _, _, _, _⟩ :: _) _ _)); refine wpList_ds (o := ⟨some 24, _, _, _, _, _⟩) rfl (.tmp 6) rfl _ rfl d hd0 ?_)
        | (go_at_call 30; refine (HL2.out _ hx0).mono ?_; rintro e w1 ⟨he1, q1, c1, rfl, ho1⟩)
        | (refine wpList_put rfl 53 (.tmp 12) (.tmp 28) rfl _ #[.int .i64 nd.level, .int .i64 nd.next, .slice q1 nd.ents.length c1] rfl rfl _ _ (Blk.new w1 _) ndSize rfl (by simp [Value.oneCell']) ?_; intro w2 hn2 hc2; have hx2 := hc2.ext (Ext.alloc w1 _) (Nat.le_refl _)))
      exact HO.out _ _ ((hx0.trans he1).trans hx2) rfl
end Go.Proofs.YtolmoknjmdmpgaaGreat
/- The walks of the reference's Bases and of the law's acyclic. -/
namespace Go.Proofs.YtolmoknjmdmpgaaGreat
open Go.RowKit Dsd
set_option maxRecDepth 100000 in
set_option maxHeartbeats 1000000 in
theorem BasesR_any (p : Option Addr) (cap n : Nat) (m : List (List UInt8)) (h : Hd) (d : DS) (w : World) (hs : Strs w p m) (hn : m.length = n) (hm : Small m) :
    Calls Tryz.prog 16 #[.slice p n cap, .agg #[.int .i64 h.applied, .int .i64 h.count, .int .i64 h.fin, .int .i64 h.root, .int .i64 h.height, .int .i64 h.splits, .int .i64 h.areas], .agg #[.int .i64 d.id, .int .i64 d.org, .int .i64 d.format, .int .i64 d.length, .int .i64 d.block, .int .i64 d.keyAt, .int .i64 d.keyLength, .int .i64 d.interval, .int .i64 d.area, .int .i64 d.freeInterval, .int .i64 d.freeArea, .int .i64 d.base, .int .i64 d.altAt, .int .i64 d.altLength, .bool d.unique, .int .i64 d.cls, .string ⟨d.volume.toArray⟩, .string ⟨d.owner.toArray⟩, .int .i64 d.created, .int .i64 d.expires, .bool d.archived]] w (BelOut (basesL m h d) (basesE m h d) w) := by
  have hdd := hd_ds w h d
  have HDo := Lib.hid (fun W => Door22_any h d W)
  have Hs := Lib.hid hs
  by_cases hz : door22 h d = 0
  · have e1 : basesL m h d = (belowD m d h.height.toNat h.root 4096).1 := by unfold basesL; rw [if_neg (by rw [hz]; simp)]
    have e2 : basesE m h d = (belowD m d h.height.toNat h.root 4096).2 := by unfold basesE; rw [if_neg (by rw [hz]; simp)]
    rw [e1, e2]
    rw [hz] at HDo
    obtain ⟨k1, k2, k3, k4, k5, k6, k7⟩ := door22_zero hz
    obtain ⟨H, hH⟩ : ∃ H : Nat, h.height = H := ⟨h.height.toNat, by omega⟩
    have hHn : h.height.toNat = H := by omega
    rw [hHn]
    have HB : Hid (∀ W, Ext w W → Calls Tryz.prog 34 #[.slice p n cap, .agg #[.int .i64 d.id, .int .i64 d.org, .int .i64 d.format, .int .i64 d.length, .int .i64 d.block, .int .i64 d.keyAt, .int .i64 d.keyLength, .int .i64 d.interval, .int .i64 d.area, .int .i64 d.freeInterval, .int .i64 d.freeArea, .int .i64 d.base, .int .i64 d.altAt, .int .i64 d.altLength, .bool d.unique, .int .i64 d.cls, .string ⟨d.volume.toArray⟩, .string ⟨d.owner.toArray⟩, .int .i64 d.created, .int .i64 d.expires, .bool d.archived], .int .i64 h.root, .int .i64 h.height, .int .i64 4096] W fun e w' => ∃ q c, Ext W w' ∧ e = .returned (.tuple #[.slice q (belowD m d H h.root 4096).1.length c, .int .i64 (belowD m d H h.root 4096).2]) ∧ w'.ownsRow w.heap.size 3 1 (.slice q (belowD m d H h.root 4096).1.length c) (belowD m d H h.root 4096).1.length (intC (belowD m d H h.root 4096).1)) := Lib.hid (fun W e => by
      rw [hH]
      exact (belowR_any p cap n m d hn hm H (by omega) h.root 4096 W (hs.ext e) (by omega) (by omega)).mono (fun e' w' ⟨a1, q, c, a2, a3⟩ => ⟨q, c, a1, a2, own_le a3 e.size⟩))
    clear hs hz e1 e2 k1 k2 k3 k4 k5 k6 k7 hH hHn
    unfold BelOut
    generalize (belowD m d H h.root 4096).1 = L at *
    generalize (belowD m d H h.root 4096).2 = er at *
    go_enter Tryz.func16, Tryz.ntmps16
    go_upto_region 1 with (fail)
    refine wp_name (fun w0 => Ext w w0 ∧ HdAt w0 w.heap.size h ∧ DsAt w0 (w.heap.size + 1) d) hdd ?_
    clear hdd
    rintro w0 ⟨he0, hb1, hb2⟩
    go_upto_region 4 with (first
      | ((with_reducible (show wpList _ _ _ (⟨some 9, _, _, _, _, _⟩ :: _) _ _)); refine wpList_hd (o := ⟨some 9, _, _, _, _, _⟩) rfl (.tmp 4) rfl _ rfl h hb1 ?_)
      | ((with_reducible (show wpList _ _ _ (⟨some 10, _, _, _, _, _⟩ :: _) _ _)); refine wpList_ds (o := ⟨some 10, _, _, _, _, _⟩) rfl (.tmp 5) rfl _ rfl d hb2 ?_)
      | (go_at_call 29; refine (HDo.out _).mono ?_; rintro e w1 ⟨rfl, he1⟩))
    have hx1 := he0.trans he1
    have hb11 := hb1.ext he1
    have hb21 := hb2.ext he1
    have c3 : w1.cell? ⟨w.heap.size, 3, none⟩ = some (.int .i64 h.root) := Blk.val hb11 3 _ rfl
    have c4 : w1.cell? ⟨w.heap.size, 4, none⟩ = some (.int .i64 h.height) := Blk.val hb11 4 _ rfl
    have l3 := Blk.lt hb11
    go_wp2_with (first
      | ((with_reducible (show wpList _ _ _ (⟨some 16, _, _, _, _, _⟩ :: _) _ _)); refine wpList_ds (o := ⟨some 16, _, _, _, _, _⟩) rfl (.tmp 5) rfl _ rfl d hb21 ?_)
      | (go_at_call 34; refine (HB.out _ hx1).mono ?_; rintro e w2 ⟨q2, c2, he2, rfl, ho2⟩))
    go_ret2
    exact ⟨hx1.trans he2, q2, c2, rfl, ho2⟩
  · have hz1 : door22 h d = 1 := by unfold door22 at hz ⊢; split at hz <;> rename_i hq; exact absurd rfl hz; rw [if_neg hq]
    have e1 : basesL m h d = [] := by unfold basesL; rw [if_pos hz]
    have e2 : basesE m h d = 1 := by unfold basesE; rw [if_pos hz]
    rw [e1, e2]
    rw [hz1] at HDo
    have HN := Lib.hid (fun e w' => bel_no (w := w) (w' := w') (e := e) (c := 1))
    clear hs hz hz1 e1 e2
    generalize BelOut [] 1 w = OUT at *
    go_enter Tryz.func16, Tryz.ntmps16
    go_upto_region 1 with (fail)
    refine wp_name (fun w0 => Ext w w0 ∧ HdAt w0 w.heap.size h ∧ DsAt w0 (w.heap.size + 1) d) hdd ?_
    clear hdd
    rintro w0 ⟨he0, hb1, hb2⟩
    go_wp2_with (first
      | ((with_reducible (show wpList _ _ _ (⟨some 9, _, _, _, _, _⟩ :: _) _ _)); refine wpList_hd (o := ⟨some 9, _, _, _, _, _⟩) rfl (.tmp 4) rfl _ rfl h hb1 ?_)
      | ((with_reducible (show wpList _ _ _ (⟨some 10, _, _, _, _, _⟩ :: _) _ _)); refine wpList_ds (o := ⟨some 10, _, _, _, _, _⟩) rfl (.tmp 5) rfl _ rfl d hb2 ?_)
      | (go_at_call 29; refine (HDo.out _).mono ?_; rintro e w1 ⟨rfl, he1⟩))
    exact HN.out _ _ (he0.trans he1) rfl
/-- Few bases, or an error. -/
def acycB (m : List (List UInt8)) (h : Hd) (d : DS) : Bool := (basesE m h d != 8) && decide ((basesL m h d).length ≤ 1000)
set_option maxRecDepth 100000 in
set_option maxHeartbeats 1000000 in
theorem acyclic_any (p : Option Addr) (cap n : Nat) (m : List (List UInt8)) (h : Hd) (d : DS) (w : World) (hs : Strs w p m) (hn : m.length = n) (hm : Small m) :
    Calls Tryz.prog 14 #[.slice p n cap, .agg #[.int .i64 h.applied, .int .i64 h.count, .int .i64 h.fin, .int .i64 h.root, .int .i64 h.height, .int .i64 h.splits, .int .i64 h.areas], .agg #[.int .i64 d.id, .int .i64 d.org, .int .i64 d.format, .int .i64 d.length, .int .i64 d.block, .int .i64 d.keyAt, .int .i64 d.keyLength, .int .i64 d.interval, .int .i64 d.area, .int .i64 d.freeInterval, .int .i64 d.freeArea, .int .i64 d.base, .int .i64 d.altAt, .int .i64 d.altLength, .bool d.unique, .int .i64 d.cls, .string ⟨d.volume.toArray⟩, .string ⟨d.owner.toArray⟩, .int .i64 d.created, .int .i64 d.expires, .bool d.archived]] w fun e w' => e = .returned (.bool (acycB m h d)) ∧ Ext w w' := by
  have hdd := hd_ds w h d
  have HB : Hid (∀ W, Ext w W → Calls Tryz.prog 16 #[.slice p n cap, .agg #[.int .i64 h.applied, .int .i64 h.count, .int .i64 h.fin, .int .i64 h.root, .int .i64 h.height, .int .i64 h.splits, .int .i64 h.areas], .agg #[.int .i64 d.id, .int .i64 d.org, .int .i64 d.format, .int .i64 d.length, .int .i64 d.block, .int .i64 d.keyAt, .int .i64 d.keyLength, .int .i64 d.interval, .int .i64 d.area, .int .i64 d.freeInterval, .int .i64 d.freeArea, .int .i64 d.base, .int .i64 d.altAt, .int .i64 d.altLength, .bool d.unique, .int .i64 d.cls, .string ⟨d.volume.toArray⟩, .string ⟨d.owner.toArray⟩, .int .i64 d.created, .int .i64 d.expires, .bool d.archived]] W fun e w' => ∃ q c, Ext W w' ∧ e = .returned (.tuple #[.slice q (basesL m h d).length c, .int .i64 (basesE m h d)])) := Lib.hid (fun W e => (BasesR_any p cap n m h d W (hs.ext e) hn hm).mono (fun e' w' ⟨a1, q, c, a2, a3⟩ => ⟨q, c, a1, a2⟩))
  have HA : Hid (acycB m h d = ((basesE m h d != 8) && decide ((basesL m h d).length ≤ 1000))) := Lib.hid rfl
  clear hs
  generalize acycB m h d = res at *
  generalize (basesL m h d).length = nl at *
  generalize basesE m h d = er at *
  cases hb : (er != 8)
  · have HR : Hid (res = false) := Lib.hid (by rw [HA.out, hb]; rfl)
    go_enter Tryz.func14, Tryz.ntmps14
    go_upto_region 1 with (fail)
    refine wp_name (fun w0 => Ext w w0 ∧ HdAt w0 w.heap.size h ∧ DsAt w0 (w.heap.size + 1) d) hdd ?_
    clear hdd
    rintro w0 ⟨he0, hb1, hb2⟩
    go_wp2_with (first
      | ((with_reducible (show wpList _ _ _ (⟨some 11, _, _, _, _, _⟩ :: _) _ _)); refine wpList_hd (o := ⟨some 11, _, _, _, _, _⟩) rfl (.tmp 4) rfl _ rfl h hb1 ?_)
      | ((with_reducible (show wpList _ _ _ (⟨some 12, _, _, _, _, _⟩ :: _) _ _)); refine wpList_ds (o := ⟨some 12, _, _, _, _, _⟩) rfl (.tmp 5) rfl _ rfl d hb2 ?_)
      | (go_at_call 16; refine (HB.out _ he0).mono ?_; rintro e w1 ⟨q2, c2, he1, rfl⟩))
    go_ret
    exact ⟨ret_bool HR.out.symm, he0.trans he1⟩
  · by_cases hl : nl ≤ 1000
    · have hlI : (nl : Int) ≤ 1000 := by omega
      have HR : Hid (res = true) := Lib.hid (by rw [HA.out, hb, decide_eq_true hl]; rfl)
      go_enter Tryz.func14, Tryz.ntmps14
      go_upto_region 1 with (fail)
      refine wp_name (fun w0 => Ext w w0 ∧ HdAt w0 w.heap.size h ∧ DsAt w0 (w.heap.size + 1) d) hdd ?_
      clear hdd
      rintro w0 ⟨he0, hb1, hb2⟩
      go_wp2_with (first
        | ((with_reducible (show wpList _ _ _ (⟨some 11, _, _, _, _, _⟩ :: _) _ _)); refine wpList_hd (o := ⟨some 11, _, _, _, _, _⟩) rfl (.tmp 4) rfl _ rfl h hb1 ?_)
        | ((with_reducible (show wpList _ _ _ (⟨some 12, _, _, _, _, _⟩ :: _) _ _)); refine wpList_ds (o := ⟨some 12, _, _, _, _, _⟩) rfl (.tmp 5) rfl _ rfl d hb2 ?_)
        | (go_at_call 16; refine (HB.out _ he0).mono ?_; rintro e w1 ⟨q2, c2, he1, rfl⟩))
      go_ret
      exact ⟨ret_bool HR.out.symm, he0.trans he1⟩
    · have hlI : decide ((nl : Int) ≤ 1000) = false := decide_eq_false (by omega)
      have HR : Hid (res = false) := Lib.hid (by rw [HA.out, hb, decide_eq_false hl]; rfl)
      go_enter Tryz.func14, Tryz.ntmps14
      go_upto_region 1 with (fail)
      refine wp_name (fun w0 => Ext w w0 ∧ HdAt w0 w.heap.size h ∧ DsAt w0 (w.heap.size + 1) d) hdd ?_
      clear hdd
      rintro w0 ⟨he0, hb1, hb2⟩
      go_wp2_with (first
        | ((with_reducible (show wpList _ _ _ (⟨some 11, _, _, _, _, _⟩ :: _) _ _)); refine wpList_hd (o := ⟨some 11, _, _, _, _, _⟩) rfl (.tmp 4) rfl _ rfl h hb1 ?_)
        | ((with_reducible (show wpList _ _ _ (⟨some 12, _, _, _, _, _⟩ :: _) _ _)); refine wpList_ds (o := ⟨some 12, _, _, _, _, _⟩) rfl (.tmp 5) rfl _ rfl d hb2 ?_)
        | (go_at_call 16; refine (HB.out _ he0).mono ?_; rintro e w1 ⟨q2, c2, he1, rfl⟩))
      go_ret
      exact ⟨ret_bool HR.out.symm, he0.trans he1⟩
end Go.Proofs.YtolmoknjmdmpgaaGreat
