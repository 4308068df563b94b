/- The walk of plain: can a description and operations be used? -/
import Derived.Test.YtjgdhlpnpihkdaaDoorR20
import Derived.Deep.AppendSrc
import Derived.Deep.Upon
import Derived.Deep.DeepAppendWide
import Derived.Test.YtjgdhlpnpihkdaaDoorOp4
import Derived.Test.YtjgdhlpnpihkdaaDoorOp3
import Derived.SizedLaws
import Derived.Test.YtjgdhlpnpihkdaaDoorCards
import Derived.Test.YtjgdhlpnpihkdaaDoorTie
import Derived.WalkKit
import Derived.ProofKit
import Derived.OpenShut
import Derived.ShutString
import Derived.ChangeMaps5
import Derived.Below
import Derived.Lay
import Derived.Deep.DeepHandedRow
set_option linter.unusedSimpArgs false
set_option linter.unusedVariables false
namespace Go.Proofs.YtjgdhlpnpihkdaaDoor
open Go.RowKit Dsd

def plainB (d : DS) (L : List (Int × List UInt8)) : Bool := fewB L 40 && (validB d && d.org == 2)
theorem plainB_at {d : DS} {L : List (Int × List UInt8)} (h : plainB d L = true) : L.length ≤ 40 ∧ (∀ i, (L.getD i (0, [])).2.length ≤ 300) ∧ validB d = true ∧ d.org = 2 := by
  unfold plainB at h
  simp only [Bool.and_eq_true, beq_iff_eq] at h
  obtain ⟨h1, h2⟩ := fewB_at h.1
  exact ⟨h1, h2, h.2.1, h.2.2⟩
set_option maxRecDepth 100000 in
theorem plain_any (p : Option Addr) (cap n : Nat) (L : List (Int × List UInt8)) (d : DS) (w : World) (hs : Opsl w p L) (hn : L.length = n) (hL : n ≤ maxLen) (hmax : ∀ i, (L.getD i (0, [])).2.length ≤ maxLen) :
    Calls Tryd.prog 42 #[.agg #[.int .i64 d.id, .int .i64 d.org, .int .i64 d.format, .int .i64 d.length, .int .i64 d.block, .int .i64 d.keyAt, .int .i64 d.keyLength, .int .i64 d.interval, .int .i64 d.area, .int .i64 d.freeInterval, .int .i64 d.freeArea, .int .i64 d.base, .int .i64 d.altAt, .int .i64 d.altLength, .bool d.unique, .int .i64 d.cls, .string ⟨d.volume.toArray⟩, .string ⟨d.owner.toArray⟩, .int .i64 d.created, .int .i64 d.expires, .bool d.archived], .slice p n cap] w fun e w' => e = .returned (.bool (plainB d L)) ∧ Ext w w' := by
  have Hsm := Lib.hid (fun w h => SmallOps_any p cap n L 40 w h hn hL hmax)
  have Hs := Lib.hid hs
  have Hv := Lib.hid (Valid_ref d)
  have HP : Hid (plainB d L = (fewB L 40 && (validB d && d.org == 2))) := Lib.hid rfl
  rw [HP.out]
  clear hs hL hmax
  generalize fewB L 40 = f at *
  generalize hv : validB d = v at *
  clear hn
  go_enter Tryd.func42, Tryd.ntmps42
  go_upto_region 1 with (fail)
  refine wp_name (fun w0 => Ext w w0 ∧ DsAt w0 w.heap.size d) ⟨Ext.alloc _ _, Blk.new w _⟩ ?_
  rintro w0 ⟨he0, hb2⟩
  have c1 : w0.cell? ⟨w.heap.size, 1, none⟩ = some (.int .i64 d.org) := Blk.val hb2 1 _ rfl
  have hl := Blk.lt hb2
  cases f
  · go_wp2_with (go_at_call 37; refine (Hsm.out _ (Hs.out.ext he0)).mono ?_; rintro e w1 ⟨rfl, rfl⟩)
    go_ret
    exact ⟨rfl, he0⟩
  · cases v
    · go_wp2_with (first
        | (go_at_call 37; refine (Hsm.out _ (Hs.out.ext he0)).mono ?_; rintro e w1 ⟨rfl, rfl⟩)
        | (refine wpList_ds rfl (.tmp 2) rfl _ rfl d hb2 ?_)
        | (go_at_call 23; refine (Hv.out _).mono ?_; rintro e w2 ⟨rfl, he2⟩))
      go_ret
      exact ⟨rfl, he0.trans he2⟩
    · go_wp2_with (first
        | (go_at_call 37; refine (Hsm.out _ (Hs.out.ext he0)).mono ?_; rintro e w1 ⟨rfl, rfl⟩)
        | (refine wpList_ds rfl (.tmp 2) rfl _ rfl d hb2 ?_)
        | (go_at_call 23; refine (Hv.out _).mono ?_; rintro e w2 ⟨rfl, he2⟩; have c2 := (he2.cell _ _ hl).trans c1; have hl2 := Nat.lt_of_lt_of_le hl he2.size))
      go_ret
      exact ⟨ret_bool (by simp), he0.trans he2⟩
end Go.Proofs.YtjgdhlpnpihkdaaDoor
/- An operation ahead of others: append([]Op{x}, l...). -/
namespace Go.Proofs.YtjgdhlpnpihkdaaDoor
open Go.RowKit Dsd

theorem infoOp : (Tryd.prog.info? 78).map (fun i => (i.zero, i.size, i.bytes)) = some (some (.agg #[.int .i64 0, .string ByteArray.empty]), 2, 24) := by kernel_rfl
theorem opsDesc : Tryd.prog.underlying 74 = some (.slice 78) := by kernel_rfl
theorem wrs_one (L : List (Int × List UInt8)) : ∀ u ∈ wrCells L, u.oneCell' = true := by
  intro u hu
  unfold wrCells at hu
  rw [List.mem_flatMap] at hu
  obtain ⟨x, _, hx⟩ := hu
  simp at hx
  rcases hx with rfl | rfl <;> rfl
theorem opsl_src {w : World} {p : Option Addr} {L : List (Int × List UInt8)} (h : Opsl w p L) (c : Nat) : Src Tryd.prog 2 74 (.slice p L.length c) L.length (wrCells L) w := by
  rcases h with rfl | ⟨b, off, rfl, hb, hc⟩
  · cases p with
    | none => exact Src.ofNil w opsDesc c
    | some a => exact Src.ofSlice w opsDesc a 0 c [] (by simp) (fun j u h => by simp at h) (fun u h => by simp at h)
  · refine Src.ofSlice w opsDesc ⟨b, off, none⟩ L.length c (wrCells L) (by rw [wrCells_len]; omega) (fun j u h => ?_) (wrs_one L)
    have hj := (List.getElem?_eq_some_iff.1 h).1
    rw [wrCells_len] at hj
    rw [addr_add]
    obtain ⟨i, hi⟩ : ∃ i, j = i * 2 ∨ j = i * 2 + 1 := ⟨j / 2, by omega⟩
    rcases hi with rfl | rfl
    · obtain ⟨c1, _⟩ := wrCells_at L i (by omega)
      rw [c1] at h
      rw [(hc i (by omega)).1]; exact h
    · obtain ⟨_, c1⟩ := wrCells_at L i (by omega)
      rw [c1] at h
      rw [← Nat.add_assoc, (hc i (by omega)).2]; exact h
theorem opsl_blk {w : World} {b : Nat} {L : List (Int × List UInt8)} {xs : List Value} (h : Blk w b (.cells (wrCells L ++ xs).toArray 78)) : Opsl w (some ⟨b, 0, none⟩) L := by
  refine .inr ⟨b, 0, rfl, Blk.lt h, fun i hi => ?_⟩
  obtain ⟨c1, c2⟩ := wrCells_at L i hi
  have hl := wrCells_len L
  rw [Nat.zero_add]
  exact ⟨Blk.val h _ _ (by simp; rw [List.getElem?_append_left (by omega)]; exact c1), Blk.val h _ _ (by simp; rw [List.getElem?_append_left (by omega)]; exact c2)⟩
/-- append([]Op{x}, l...) -/
theorem wp_append_op {o : Oper} {a : Act} {w : World} {K : Act → World → Prop} {Q : Exit → Act → World → Prop} (x y : Operand) (ho : o.op = .call { callee := .builtin .append, args := #[x, y], argTypes := #[74, 74] })
    (s : Int) (r : List UInt8) (b : Nat) (hx : a.eval x = .slice (some ⟨b, 0, none⟩) 1 1) (hb : Blk w b (.cells #[.int .i64 s, .string ⟨r.toArray⟩] 78)) (p : Option Addr) (L : List (Int × List UInt8)) (c : Nat) (hy : a.eval y = .slice p L.length c) (hs : Opsl w p L) (hn : L.length * 24 ≤ 140737488355328)
    (h : ∀ q c' w', Ext w w' → Opsl w' q ((s, r) :: L) → K (a.put o.dst (.slice q (L.length + 1) c')) w') : o.wp Tryd.prog a w K Q := by
  obtain ⟨i, hi, hz0, hz1, hz2⟩ := info_parts infoOp
  have hsrc := opsl_src hs c
  have e1 : wrCells [(s, r)] = [.int .i64 s, .string ⟨r.toArray⟩] := rfl
  by_cases h0 : L.length = 0
  · have hL : L = [] := List.eq_nil_of_length_eq_zero h0
    subst hL
    have hrun := run_append_nothing w 74 74 o.type 78 i opsDesc hi (some ⟨b, 0, none⟩) 1 1 (Nat.le_refl _) _ (by rw [hz1]; exact hsrc)
    have := h (some ⟨b, 0, none⟩) 1 w (Ext.refl w) (opsl_blk (xs := []) (by rw [e1]; simpa using hb))
    unfold Oper.wp
    simp only [List.length_nil] at hrun hy
    simp [execOp, ho, resolve, invoke, builtin, hx, hy, hrun, Result.andThen]
    exact this
  · have hold : (Builtin.firstCells i.size 1 (.slice (some ⟨b, 0, none⟩) 1 1)).run Tryd.prog w.drew = .ok [.int .i64 s, .string ⟨r.toArray⟩].toArray w.drew := by
      rw [hz1]
      exact run_firstCells_some w.drew 2 1 ⟨b, 0, none⟩ 1 1 _ (by simp) (fun j u hj => by
        rw [addr_add]
        exact Blk.val (show Blk w.drew b _ from hb) _ _ (by simpa using hj))
    have hcap : Builtin.nextslicecap (1 + L.length) 1 * i.bytes ≤ 281474976710656 := by
      have := nextslicecap_le_wide (need := 1 + L.length) (old := 1) (by omega)
      rw [hz2]; omega
    have hrun := run_append_grow_src w 74 74 o.type 78 i _ opsDesc hi hz0 (some ⟨b, 0, none⟩) 1 1 _ hold _ L.length (wrCells L) (by rw [hz1]; exact hsrc) (by omega) (by omega) hcap
    have e2 : wrCells ((s, r) :: L) = [.int .i64 s, .string ⟨r.toArray⟩] ++ wrCells L := rfl
    generalize hZ : Builtin.zeroCells (Value.agg #[.int .i64 0, .string ByteArray.empty]).cells (grownCap w (1 + L.length) 1 78 - (1 + L.length)) = Z at hrun
    have hA : (([.int .i64 s, .string ⟨r.toArray⟩] : List Value) ++ wrCells L).toArray ++ Z = (wrCells ((s, r) :: L) ++ Z.toList).toArray := by rw [e2]; apply Array.ext'; simp
    rw [hA] at hrun
    have hopsl := h (some ⟨w.heap.size, 0, none⟩) (grownCap w (1 + L.length) 1 78) _ ((Ext.drew w).trans (Ext.alloc _ _)) (opsl_blk (Blk.new w.drew (.cells (wrCells ((s, r) :: L) ++ Z.toList).toArray 78)))
    unfold Oper.wp
    rw [Nat.add_comm] at hopsl
    simp [execOp, ho, resolve, invoke, builtin, hx, hy, hrun, Result.andThen]
    exact hopsl
def OpsF (L : List (Int × List UInt8)) : Fact := fun x w => ∃ q c, x = .slice q L.length c ∧ Opsl w q L
theorem OpsF.stable (L : List (Int × List UInt8)) : (OpsF L).stable := fun _ _ _ he ⟨q, c, h1, h2⟩ => ⟨q, c, h1, h2.ext he⟩
end Go.Proofs.YtjgdhlpnpihkdaaDoor
/- The walk of the law RelativeOthers. -/
namespace Go.Proofs.YtjgdhlpnpihkdaaDoor
open Go.RowKit Dsd

theorem iter_cells {w : World} {mb rt n cnt : Nat} {g : Wnt} {left : Int → Bool} (h : WantIter Tryd.prog 3 9 w mb rt n g left cnt) {b : Nat} {cs : Array Value} {u : TypeId} (hb : Blk w b (.cells cs u)) : b ≠ rt := by
  obtain ⟨D, lf, sz, ⟨es, clock, since, seen, c0, _, _, _, _, hr, _⟩, _⟩ := h
  rintro rfl
  have := hr.symm.trans hb
  simp at this
theorem own_chgI {w w' : World} {mb rt k cnt : Nat} {g : Wnt} {left : Int → Bool} (hm : WantIter Tryd.prog 3 9 w mb rt k g left cnt) (c : Chg rt w w') {base : Nat} {e : TypeId} {size : Nat} {v : Value} {n : Nat} {xs : List Value} (h : w.ownsRow base e size v n xs) : w'.ownsRow base e size v n xs := by
  refine ⟨h.1, ?_⟩
  rcases h.2 with hn | ⟨b, cap, cur, rfl, hb, hg, rest⟩
  · exact .inl hn
  · exact .inr ⟨b, cap, cur, rfl, hb, c.blk hg (iter_cells hm hg), rest⟩
/-- What stands in the loop over the map. -/
structure Oth (w : World) (hb ab mb rt : Nat) (d : DS) (H G : Hd) (s : Int) (r : List UInt8) (q9 : Option Addr) (c9 : Nat) (P : List (List UInt8)) (n : Nat) (g : Wnt) (wr : World) : Prop where
  ext : Ext w wr
  hb : HdAt wr hb H
  ab : HdAt wr ab G
  ds : DsAt wr w.heap.size d
  op : Blk wr (w.heap.size + 1) (.cells #[.int .i64 s, .string ⟨r.toArray⟩] 78)
  row : wr.ownsRow w.heap.size 9 1 (.slice q9 P.length c9) P.length (P.map fun s : List UInt8 => Value.string ⟨s.toArray⟩)
  iter : ∃ left cnt, WantIter Tryd.prog 3 9 wr mb rt n g left cnt
theorem Oth.step {w : World} {hb ab mb rt : Nat} {d : DS} {H G : Hd} {s : Int} {r : List UInt8} {q9 : Option Addr} {c9 : Nat} {P : List (List UInt8)} {n : Nat} {g : Wnt} {wr w' : World} (o : Oth w hb ab mb rt d H G s r q9 c9 P n g wr) (hrt : w.heap.size ≤ rt) (c : Chg rt wr w') (hi : ∃ left cnt, WantIter Tryd.prog 3 9 w' mb rt n g left cnt) : Oth w hb ab mb rt d H G s r q9 c9 P n g w' := by
  obtain ⟨left, cnt, h⟩ := o.iter
  exact ⟨c.ext o.ext hrt, c.blk o.hb (iter_cells h o.hb), c.blk o.ab (iter_cells h o.ab), c.blk o.ds (iter_cells h o.ds), c.blk o.op (iter_cells h o.op), own_chgI h c o.row, hi⟩
theorem Oth.grow {w : World} {hb ab mb rt : Nat} {d : DS} {H G : Hd} {s : Int} {r : List UInt8} {q9 : Option Addr} {c9 : Nat} {P : List (List UInt8)} {n : Nat} {g : Wnt} {wr w' : World} (o : Oth w hb ab mb rt d H G s r q9 c9 P n g wr) (e : Ext wr w') : Oth w hb ab mb rt d H G s r q9 c9 P n g w' := by
  obtain ⟨left, cnt, h⟩ := o.iter
  exact ⟨o.ext.trans e, o.hb.ext e, o.ab.ext e, o.ds.ext e, e.blk _ _ o.op, own_ext o.row e, left, cnt, h.ext e⟩
theorem strs_addr {w : World} {q : Option Addr} {M : List (List UInt8)} (h : Strs w q M) (hM : 0 < M.length) : ∃ ad, q = some ad := by
  rcases h with h | ⟨b, off, hq, _⟩
  · simp at h; subst h; simp at hM
  · exact ⟨_, hq⟩
set_option maxRecDepth 100000 in
set_option maxHeartbeats 4000000 in
theorem RelativeOthers_any (p : Option Addr) (cap n : Nat) (L : List (Int × List UInt8)) (d : DS) (s : Int) (r : List UInt8) (w : World) (hs : Opsl w p L) (hn : L.length = n) (hcap : n ≤ cap) (hcm : cap ≤ maxLen) (hnb : n * 24 ≤ 140737488355328) (hmx : ∀ i, (L.getD i (0, [])).2.length ≤ maxLen ∧ (Lit.int .i64 (L.getD i (0, [])).1).wf = true) (hr : r.length ≤ maxLen) (hsw : (Lit.int .i64 s).wf = true) :
    Calls Tryd.prog 9 #[.agg #[.int .i64 d.id, .int .i64 d.org, .int .i64 d.format, .int .i64 d.length, .int .i64 d.block, .int .i64 d.keyAt, .int .i64 d.keyLength, .int .i64 d.interval, .int .i64 d.area, .int .i64 d.freeInterval, .int .i64 d.freeArea, .int .i64 d.base, .int .i64 d.altAt, .int .i64 d.altLength, .bool d.unique, .int .i64 d.cls, .string ⟨d.volume.toArray⟩, .string ⟨d.owner.toArray⟩, .int .i64 d.created, .int .i64 d.expires, .bool d.archived], .slice p n cap, .agg #[.int .i64 s, .string ⟨r.toArray⟩]] w fun e w' => e = .returned (.bool true) ∧ Ext w w' := by
  subst hn
  have Hs := Lib.hid hs
  have Hmx := Lib.hid hmx
  have Hsw := Lib.hid hsw
  have HPl := Lib.hid (fun w' q c (h : Opsl w' q ((s, r) :: L)) => plain_any q c (L.length + 1) ((s, r) :: L) d w' h rfl (by unfold maxLen; omega) (fun i => by
    cases i with
    | zero => exact hr
    | succ i => exact (hmx i).1))
  have Hpb := Lib.hid (fun h => plainB_at (d := d) (L := (s, r) :: L) h)
  clear hs hmx hsw hr
  go_enter Tryd.func9, Tryd.ntmps9
  go_upto_region 1 with (fail)
  refine wp_name (fun w0 => Ext w w0 ∧ DsAt w0 w.heap.size d ∧ Blk w0 (w.heap.size + 1) (.cells #[.int .i64 s, .string ⟨r.toArray⟩] 78)) ⟨(Ext.alloc _ _).trans (Ext.alloc _ _), Blk.alloc (Blk.new w _) _, Blk.new1 _ _ _ (by simp)⟩ ?_
  rintro w0 ⟨he0, hb3, hb5⟩
  go_upto_region 3 with (go_at_call 34; refine (awake19_any _).mono ?_; rintro e w1 ⟨rfl, he1⟩)
  have Hd := Lib.hid (hb3.ext he1)
  have Ho := Lib.hid (he1.blk _ _ hb5)
  have hl3 : w.heap.size < w1.heap.size := Blk.lt Hd.out
  have hl5 : w.heap.size + 1 < w1.heap.size := Blk.lt Ho.out
  have HE1 := Lib.hid (he0.trans he1)
  clear hb3 hb5 he0 he1
  refine wp_region_mk 200 (Ext.refl w1) (by kernel_rfl) (by kernel_rfl) (by kernel_rfl) ?_
  simp only [List.take_succ_cons, List.take_zero, List.take_nil, List.drop_succ_cons, List.drop_zero, List.drop_nil, List.map_cons, List.map_nil]
  repeat (first
    | (refine wpML_det (o := ⟨some 23, _, _, _, _, _⟩) (v := .agg #[.int .i64 d.id, .int .i64 d.org, .int .i64 d.format, .int .i64 d.length, .int .i64 d.block, .int .i64 d.keyAt, .int .i64 d.keyLength, .int .i64 d.interval, .int .i64 d.area, .int .i64 d.freeInterval, .int .i64 d.freeArea, .int .i64 d.base, .int .i64 d.altAt, .int .i64 d.altLength, .bool d.unique, .int .i64 d.cls, .string ⟨d.volume.toArray⟩, .string ⟨d.owner.toArray⟩, .int .i64 d.created, .int .i64 d.expires, .bool d.archived]) rfl ?_ ?_
       · intro a w' he hr K hK
         simp [Reads, Oper.looksAt, Op.operands, factAt, Is] at hr
         exact wp_load_row 26 (.tmp 3) rfl (w.heap.size) (by go_simp) _ _ _ _ (he.blk _ _ Hd.out) dsDesc rfl dsSize (hK _ (Ext.refl _))
       simp only [setL, List.set_cons_succ, List.set_cons_zero])
    | (refine wpML_det (o := ⟨some 24, _, _, _, _, _⟩) (v := .agg #[.int .i64 s, .string ⟨r.toArray⟩]) rfl ?_ ?_
       · intro a w' he hr K hK
         simp [Reads, Oper.looksAt, Op.operands, factAt, Is] at hr
         exact wp_load_row 78 (.tmp 5) rfl (w.heap.size + 1) (by go_simp) _ _ _ _ (he.blk _ _ Ho.out) opDesc rfl opSize (hK _ (Ext.refl _))
       simp only [setL, List.set_cons_succ, List.set_cons_zero])
    | (refine wpML_fact (o := ⟨some 25, _, _, _, _, _⟩) (Fresh 1 1 (.cells #[.int .i64 s, .string ⟨r.toArray⟩] 78)) (Fresh.stable _ _ _) rfl ?_ ?_
       · intro a w' he hr K hK
         simp [Reads, Oper.looksAt, Op.operands, Call.operands, factAt, Is] at hr
         go_simp
         exact hK _ _ (Ext.alloc _ _) (Fresh.new _ _ _ _)
       simp only [setL, List.set_cons_succ, List.set_cons_zero])
    | (refine wpML_fact (o := ⟨some 27, _, _, _, _, _⟩) (OpsF ((s, r) :: L)) (OpsF.stable _) rfl ?_ ?_
       · intro a w' he hr K hK
         obtain ⟨b, h1, h2⟩ := hr 25 (by simp [Oper.looksAt, Op.operands, Call.operands])
         have h3 := hr 26 (by simp [Oper.looksAt, Op.operands, Call.operands])
         exact wp_append_op (.tmp 25) (.tmp 26) rfl s r b h1 h2 p L cap h3 (Hs.out.ext (HE1.out.trans he)) hnb fun q c' w'' e h4 => hK _ _ e ⟨q, c', rfl, h4⟩
       simp only [setL, List.set_cons_succ, List.set_cons_zero])
    | (refine wpML_det (o := ⟨some 28, _, _, _, _, _⟩) (v := .bool (plainB d ((s, r) :: L))) rfl ?_ ?_
       · intro a w' he hr K hK
         obtain ⟨q1, c1, h1, h3⟩ := hr 27 (by simp [Oper.looksAt, Op.operands, Call.operands])
         simp [Reads, Oper.looksAt, Op.operands, Call.operands, factAt, Is] at hr
         simp at h1
         go_simp
         refine (HPl.out w' q1 c1 h3).mono ?_
         rintro e w'' ⟨rfl, he'⟩
         exact hK _ he'
       simp only [setL, List.set_cons_succ, List.set_cons_zero])
    | (refine wpML_move _ _ rfl (by first | exact .inl rfl | exact .inr rfl) rfl (by first | exact Is.stable _ | exact AppF.stable _ | exact WrF.stable _ | exact PtrF.stable _ _ | exact IfcF.stable (Fresh.stable _ _ _) _ | exact PairF.stable (RowF.stable _ _ _ _) _ | exact RowF.stable _ _ _ _ | exact Fresh.stable _ _ _) ?_
       simp only [setL, List.set_cons_succ, List.set_cons_zero, List.getD_cons_succ, List.getD_cons_zero])
    | (refine wpML_moveC _ rfl (by first | exact .inl rfl | exact .inr rfl) ?_
       simp only [setL, List.set_cons_succ, List.set_cons_zero])
    | (apply wpML_det rfl
       · intro a w' he hr K hK
         simp [Reads, Oper.looksAt, Op.operands, Call.operands, factAt, Is] at hr
         have hx := he.cell
         go_simp
         try go_bits
         try (rw [if_neg (by omega)]; go_simp)
         first
           | exact hK _ (Ext.refl _)
       simp only [setL, List.set_cons_succ, List.set_cons_zero])
    | (apply wpML_det rfl
       · intro a w' he hr K hK
         simp [Reads, Oper.looksAt, Op.operands, Call.operands, factAt, Fresh] at hr
         obtain ⟨b, hr1, hr2⟩ := hr
         go_simp
         exact hK _ (Ext.refl _)
       simp only [setL, List.set_cons_succ, List.set_cons_zero]))
  intro w2 he2
  repeat (first | with_reducible refine rest_is _ _ _ _ ?_ | (with_reducible refine rest_fact _ _ _ _ ?_; intro _ _) | with_reducible refine rest_end _ _ ?_)
  simp only [List.reverse_cons, List.reverse_nil, List.nil_append, List.cons_append]
  rename_i x25 h25 x27 h27
  clear h25 h27
  generalize hpl : plainB d ((s, r) :: L) = pb at *
  clear hpl HPl
  cases pb
  · go_wp2_with fail
    go_ret
    exact ⟨rfl, HE1.out.trans he2⟩
  · obtain ⟨hL, hLs, hv, ho⟩ := Hpb.out rfl
    have hL39 : L.length ≤ 39 := by simpa using hL
    have hr300 : r.length ≤ 300 := hLs 0
    have HRun := Lib.hid (fun w' (h : Opsl w' p L) => run19_any p cap L.length L d w' h rfl hcap hcm (by omega) (fun i => hLs (i + 1)) (fun i => (Hmx.out i).2) hv ho)
    have Hv := Lib.hid hv
    have Hor := Lib.hid ho
    have HE2 := Lib.hid (HE1.out.trans he2)
    have Hd2 := Lib.hid (Hd.out.ext he2)
    have Ho2 := Lib.hid (he2.blk _ _ Ho.out)
    have hb3 := Hd2.out
    clear hL hLs hv ho Hpb Hmx he2 HE1 Hd Ho hl3 hl5
    go_upto_region 6 with (first
      | (refine wpList_ds (o := ⟨some 31, _, _, _, _, _⟩) rfl (.tmp 3) rfl _ rfl d hb3 ?_)
      | (go_at_call 43; refine (HRun.out _ (Hs.out.ext HE2.out)).mono ?_; rintro e w3 ⟨he3, H, M, F, k, q3, c3, mb, rfl, hRan, hst, hmb, hmap⟩)
      | (refine wpList_put rfl 24 (.tmp 7) (.tmp 34) rfl _ #[.int .i64 H.applied, .int .i64 H.count, .int .i64 H.fin, .int .i64 H.root, .int .i64 H.height, .int .i64 H.splits, .int .i64 H.areas] rfl rfl _ _ (Blk.new1 _ _ _ (by simp)) hdSize rfl (hd_one H) ?_; intro w4 hb4 hc4))
    have he5 : Ext w3 w4 := hc4.ext (Ext.alloc _ _) (Nat.le_refl _)
    have he35 : Ext w2 w4 := he3.trans he5
    refine wp_name (fun w5 => Ext w w5 ∧ HdAt w5 w3.heap.size H ∧ Strs w5 q3 M ∧ WantM w5 mb L.length F ∧ DsAt w5 w.heap.size d ∧ Blk w5 (w.heap.size + 1) (.cells #[.int .i64 s, .string ⟨r.toArray⟩] 78) ∧ w.heap.size ≤ w3.heap.size) ⟨HE2.out.trans he35, hb4, hst.ext he5, WantAt.ext hmap he5, Hd2.out.ext he35, he35.blk _ _ Ho2.out, (HE2.out.trans he3).size⟩ ?_
    have hmbw : w.heap.size ≤ mb := Nat.le_trans HE2.out.size hmb
    clear hb4 hc4 hst hmap he5 he35 he3 hb3 Hd2 Ho2 HE2 hmb
    rintro w5 ⟨hE5, hb7, hst, hmap, hd3, hb5, hwhb⟩
    generalize w3.heap.size = hb at *
    obtain ⟨hMs, hMp⟩ := hRan.small (by omega)
    have hMl : M.length ≤ 1000 := by have h1 := hRan.few; have h2 := hRan.made.mlen; simp only at h2; omega
    obtain ⟨ad, rfl⟩ := strs_addr hst hMp
    have HS := Lib.hid (hRan.step Hv.out Hor.out (by omega) s r)
    have HC := Lib.hid hRan.count
    have HR := Lib.hid hRan
    simp only at HS HC hMs hMp
    have HA1 := Lib.hid (fun w' (e : Ext w5 w') => step_any (some ad) c3 M.length M H d s r w' (hst.ext e) rfl hMs (by omega))
    have HPu := Lib.hid (fun w' (e : Ext w5 w') q c WA (hw : Wrts w' q WA) (hl : WA.length ≤ 100) => Put_any ad q M.length c3 WA.length c M WA w' (hst.ext e) rfl hw rfl (by omega) hl)
    generalize hRr : stepR M H d s r = Rr at *
    clear hRr hRan
    obtain ⟨G, WA, EA⟩ := Rr
    simp only at HS
    have c0 : w5.cell? ⟨w.heap.size + 1, 0, none⟩ = some (.int .i64 s) := Blk.val hb5 0 _ rfl
    have c1 : w5.cell? ⟨w.heap.size + 1, 1, none⟩ = some (.string ⟨r.toArray⟩) := Blk.val hb5 1 _ rfl
    have hl5 : w.heap.size + 1 < w5.heap.size := Blk.lt hb5
    go_upto_region 7 with (first
      | (refine wpList_hd (o := ⟨some 41, _, _, _, _, _⟩) rfl (.tmp 7) rfl _ rfl H hb7 ?_)
      | (refine wpList_ds (o := ⟨some 42, _, _, _, _, _⟩) rfl (.tmp 3) rfl _ rfl d hd3 ?_)
      | (refine wpList_op (o := ⟨some 43, _, _, _, _, _⟩) rfl (.tmp 5) rfl (w.heap.size + 1) 0 rfl s r c0 c1 ?_)
      | (go_at_call 38; refine (HA1.out _ (Ext.refl _)).mono ?_; rintro e w6 h3; obtain ⟨q6, c6, rfl, he6, hw6⟩ := relOut_val rfl h3; clear h3)
      | (refine wpList_put rfl 24 (.tmp 11) (.tmp 45) rfl _ #[.int .i64 G.applied, .int .i64 G.count, .int .i64 G.fin, .int .i64 G.root, .int .i64 G.height, .int .i64 G.splits, .int .i64 G.areas] rfl rfl _ _ (Blk.new1 _ _ _ (by simp)) hdSize rfl (hd_one G) ?_; intro w7 hb11 hc7))
    have he67 : Ext w6 w7 := hc7.ext (Ext.alloc _ _) (Nat.le_refl _)
    refine wp_name (fun w8 => Ext w5 w8 ∧ HdAt w8 w6.heap.size G ∧ Wrts w8 q6 WA ∧ w5.heap.size ≤ w6.heap.size) ⟨he6.trans he67, hb11, hw6.ext he67, he6.size⟩ ?_
    clear hb11 hc7 hw6 he67 he6 HA1 c0 c1
    rintro w8 ⟨he8, hb11, hw8, hab5⟩
    generalize w6.heap.size = ab at *
    rcases HS.out with ⟨c, hc, hR, hSS, hnone⟩ | ⟨F', k', hE, hWl, hSS, hRan, hkk, hs1, hs2, hy, hln, hwF, huF⟩
    · obtain ⟨rfl, rfl, rfl⟩ : G = Hd.zero ∧ WA = [] ∧ EA = c := by simpa [RelRes.no] using hR
      have hEI : (EA == 0) = false := by simpa using hc
      clear hR hc HS hSS hnone HPu
      go_wp2_with fail
      go_ret
      exact ⟨rfl, hE5.trans he8⟩
    · subst hE
      rw [hSS] at hRan
      have HRan := Lib.hid hRan
      have HwF := Lib.hid hwF
      have Hkk := Lib.hid hkk
      have Hr0 : Hid (r ≠ [] → (r.length : Int) = d.length) := Lib.hid hln
      clear hSS hRan hwF huF hkk hs1 hs2 hy hln HS HRun
      have HPu8 := Lib.hid (fun w' (e : Ext w8 w') => HPu.out w' (he8.trans e) q6 c6 WA (hw8.ext e) (by omega))
      go_upto_region 11 with (first
        | (go_at_call 27; refine (HPu8.out _ (Ext.refl _)).mono ?_; rintro e w9 ⟨he9, v9, rfl, hown9⟩; obtain ⟨q9, c9, rfl, hst9, _⟩ := own_strs_p hown9)
        | (at_range; refine wpList_want_range wantTy rfl _ rfl rfl (WantAt.ext hmap (he8.trans he9)) ?_; intro w10 hit he10 hsz))
      go_frame
      have hE9 := hE5.trans (he8.trans he9)
      refine wp_name (fun w10 => Oth w hb ab mb w9.heap.size d H G s r q9 c9 (putsP M WA) L.length (wantF F) w10) ⟨hE9.trans he10, hb7.ext ((he8.trans he9).trans he10), hb11.ext (he9.trans he10), hd3.ext ((he8.trans he9).trans he10), ((he8.trans he9).trans he10).blk _ _ hb5, own_ext (own_le hown9 (hE5.trans he8).size) he10, _, _, hit⟩ ?_
      have hrt : w.heap.size ≤ w9.heap.size := hE9.size
      clear hit he10 hown9 hst9 hE9 he9 HPu8 HPu hw8 hb11 he8 hb7 hst hmap hd3 hb5 hE5
      rintro wa hO
      generalize w9.heap.size = rt at *
      have HO0 := Lib.hid hO
      clear hO
      go_loopw [15] (fun v wr => Oth w hb ab mb rt d H G s r q9 c9 (putsP M WA) L.length (wantF F) wr) (fun v wr => wr.rangeLeft mb rt)
      case atStart => exact HO0.out
      case round =>
        obtain ⟨left, cnt, hit⟩ := hrel.iter
        have HOr := Lib.hid hrel
        have Hle := Lib.hid hit.left_eq
        clear hrel
        go_wp2_with (at_next; refine wpList_want_next wantTy rfl _ rfl rfl hit ?_ ?_)
        · intro hno
          have hO9 := HOr.out
          have hab1 := hO9.ab
          have hds1 := hO9.ds
          have hb1 := hO9.hb
          have c0 : wr.cell? ⟨w.heap.size + 1, 0, none⟩ = some (.int .i64 s) := Blk.val hO9.op 0 _ rfl
          have c1 : wr.cell? ⟨w.heap.size + 1, 1, none⟩ = some (.string ⟨r.toArray⟩) := Blk.val hO9.op 1 _ rfl
          have c2 : wr.cell? ⟨ab, 2, none⟩ = some (.int .i64 G.fin) := Blk.val hO9.ab 2 _ rfl
          have c3 : wr.cell? ⟨hb, 2, none⟩ = some (.int .i64 H.fin) := Blk.val hO9.hb 2 _ rfl
          have hl1 : w.heap.size + 1 < wr.heap.size := Blk.lt hO9.op
          have hl2 : ab < wr.heap.size := Blk.lt hO9.ab
          have hl3 : hb < wr.heap.size := Blk.lt hO9.hb
          have HX9 := Lib.hid hO9.ext
          have HG := Lib.hid (rget_any q9 c9 (putsP M WA).length (putsP M WA) G d s wr (own_strs_at hO9.row) rfl ((HRan.out.small (by omega)).1))
          have hge : decide (H.fin ≤ G.fin) = true := decide_eq_true (by have h1 := HC.out.2; have h2 := HRan.out.count.2; have h3 := Hkk.out; simp only at h2; omega)
          have HGa := Lib.hid (HRan.out.get Hv.out Hor.out (by omega) s)
          clear hO9 hno hit
          by_cases hr : r = []
          · subst hr
            have hg := HGa.out.2 (by rw [HwF.out, updW_at]; simp)
            simp only at hg
            generalize getR (putsP M WA) G d s = gr at *
            obtain ⟨g1, g2⟩ := gr
            obtain ⟨hg1, hg2⟩ := hg
            simp only at hg1 hg2
            subst hg1
            have hgI : (g2 == 0) = false := by simpa using hg2
            have HG2 := Lib.hid HG.out
            clear hg2 HGa HG
            go_wp2_with (first
              | (refine wpList_ds (o := ⟨some 96, _, _, _, _, _⟩) rfl (.tmp 3) rfl _ rfl d hds1 ?_)
              | (refine wpList_hd (o := ⟨some 95, _, _, _, _, _⟩) rfl (.tmp 11) rfl _ rfl G hab1 ?_)
              | (go_at_call 44; refine (HG2.out).mono ?_; rintro e w2 ⟨rfl, he2⟩; have c1' := (he2.cell _ _ hl1).trans c1; have c2' := (he2.cell _ _ hl2).trans c2; have c3' := (he2.cell _ _ hl3).trans c3))
            go_ret
            exact ⟨rfl, HX9.out.trans he2⟩
          · have hg := HGa.out.1 r (by rw [HwF.out, updW_at]; simp [hr])
            simp only at hg
            rw [hg] at HG
            have hrI : (r == []) = false := by simpa using hr
            have hrE : r.isEmpty = false := by simpa using hr
            have HG2 := Lib.hid HG.out
            clear hg HGa HG
            go_wp2_with (first
              | (refine wpList_ds (o := ⟨some 96, _, _, _, _, _⟩) rfl (.tmp 3) rfl _ rfl d hds1 ?_)
              | (refine wpList_hd (o := ⟨some 95, _, _, _, _, _⟩) rfl (.tmp 11) rfl _ rfl G hab1 ?_)
              | (go_at_call 44; refine (HG2.out).mono ?_; rintro e w2 ⟨rfl, he2⟩; have c1' := (he2.cell _ _ hl1).trans c1; have c2' := (he2.cell _ _ hl2).trans c2; have c3' := (he2.cell _ _ hl3).trans c3))
            go_ret
            exact ⟨rfl, HX9.out.trans he2⟩
        · intro k0 v0 w11 cnt' hkw hlk hgk hit' hlt hch hen
          have hO1 := HOr.out.step hrt hch ⟨_, _, hit'⟩
          have HO1 := Lib.hid hO1
          have hab1 := hO1.ab
          have hds1 := hO1.ds
          have c0 : w11.cell? ⟨w.heap.size + 1, 0, none⟩ = some (.int .i64 s) := Blk.val hO1.op 0 _ rfl
          have hl1 : w.heap.size + 1 < w11.heap.size := Blk.lt hO1.op
          have HG := Lib.hid (rget_any q9 c9 (putsP M WA).length (putsP M WA) G d k0 w11 (own_strs_at hO1.row) rfl ((HRan.out.small (by omega)).1))
          have Hgk := Lib.hid hgk
          have Hlt := Lib.hid hlt
          have Hit := Lib.hid hit'
          clear hgk hlk hlt hit' hit hch hkw
          have HX1 := Lib.hid hO1.ext
          have HGa := Lib.hid (HRan.out.get Hv.out Hor.out (by omega) k0)
          clear hO1
          go_upto_region 13 with (fail)
          by_cases hk : k0 = s
          · subst hk
            generalize getR (putsP M WA) G d k0 = gr at *
            obtain ⟨g1, g2⟩ := gr
            go_wp2_with (first
              | (refine wpList_ds (o := ⟨some 74, _, _, _, _, _⟩) rfl (.tmp 3) rfl _ rfl d hds1 ?_)
              | (refine wpList_hd (o := ⟨some 73, _, _, _, _, _⟩) rfl (.tmp 11) rfl _ rfl G hab1 ?_)
              | (go_at_call 44; refine (HG.out).mono ?_; rintro e w2 ⟨rfl, he2⟩; have c0' := (he2.cell _ _ hl1).trans c0))
            go_roundw
            case rel => exact HO1.out.grow he2
            case measure => rw [Hle.out, (Hit.out.ext he2).left_eq]; exact Hlt.out
          · have hkI : (k0 != s) = true := by simpa using hk
            have hg := HGa.out.1 v0 (by rw [HwF.out]; unfold updW; rw [if_neg hk]; exact Hgk.out)
            simp only at hg
            rw [hg] at HG
            have HG2 := Lib.hid HG.out
            clear hg HGa HG
            go_wp2_with (first
              | (refine wpList_ds (o := ⟨some 74, _, _, _, _, _⟩) rfl (.tmp 3) rfl _ rfl d hds1 ?_)
              | (refine wpList_hd (o := ⟨some 73, _, _, _, _, _⟩) rfl (.tmp 11) rfl _ rfl G hab1 ?_)
              | (go_at_call 44; refine (HG2.out).mono ?_; rintro e w2 ⟨rfl, he2⟩; have c0' := (he2.cell _ _ hl1).trans c0))
            go_roundw
            case rel => exact HO1.out.grow he2
            case measure => rw [Hle.out, (Hit.out.ext he2).left_eq]; exact Hlt.out
end Go.Proofs.YtjgdhlpnpihkdaaDoor
/- One operation that comes in by value; a slice of operations, with the bound of its bytes. -/
namespace Go.Proofs.YtjgdhlpnpihkdaaDoor
open Go.ChangeShapes Go.WideShapes Go.Deep Go.RowKit Dsd

theorem opTypes5 : (Tryd.prog.fieldsOf 78).toList.map (fun f => (f.offset, Tryd.prog.cellsOf f.type, Tryd.prog.underlying f.type)) = [(0, 1, some (.int .i64)), (1, 1, some .string)] := by kernel_rfl
set_option maxRecDepth 100000 in
theorem open_op {H : Type} {enc : TypeId × Value → H} {w : World} {r : Reach} {b0 base : Nat} {spare : Nat → Bool} {held : Bool} {v : Value} {d : DataW H} {ps : List MemPlace}
    (hv : Value.okWide Tryd.prog w r b0 78 v) (h : DataW.Trod enc Tryd.prog w base spare held 78 v d ps) : ∃ (s : Int) (x : List UInt8), v = .agg #[.int .i64 s, .string ⟨x.toArray⟩] ∧ x.length ≤ maxLen ∧ (Lit.int .i64 s).wf = true := by
  have hfs := opTypes5
  obtain ⟨cs, rfl, hsz⟩ := okWide_struct opDesc hv
  obtain ⟨fuel, hf⟩ := h
  obtain ⟨xs, n, _, _, _, hlen, hg⟩ := DataW.trod_struct opDesc hf
  have hC : Tryd.prog.cellsOf 78 = 2 := by kernel_rfl
  have hF : (Tryd.prog.fieldsOf 78).size = 2 := by kernel_rfl
  rw [hC] at hsz
  rw [hF] at hlen
  generalize Tryd.prog.fieldsOf 78 = fs at *
  obtain ⟨fl⟩ := fs
  obtain ⟨l⟩ := cs
  simp only [List.size_toArray] at hsz hF
  match l, hsz, fl, hF with
  | [c0, c1], _, [f0, f1], _ =>
    simp only [List.map_cons, List.map_nil, List.cons.injEq, Prod.mk.injEq, and_true] at hfs
    obtain ⟨⟨o0, k0, u0⟩, o1, k1, u1⟩ := hfs
    have h0 := hg 0 f0 rfl
    rw [o0, k0, List.getElem?_eq_getElem (by omega)] at h0
    obtain ⟨a0, e0, _, w0⟩ := DataW.trod_int u0 h0
    have h1 := hg 1 f1 rfl
    rw [o1, k1, List.getElem?_eq_getElem (by omega)] at h1
    obtain ⟨a1, e1, _, w1⟩ := DataW.trod_string u1 h1
    simp only [Value.cells, List.drop_succ_cons, List.drop_zero, List.take_succ_cons, List.take_zero, List.cons.injEq, and_true] at e0 e1
    subst e0 e1
    exact ⟨a0, a1.data.toList, rfl, by simpa using w1, w0⟩
theorem opBytes : Tryd.prog.bytesOf 78 = 24 := by kernel_rfl
/-- What a slice of operations reads as: how many there are. -/
theorem ops_read {H : Type} {enc : TypeId × Value → H} {w : World} {base : Nat} {spare : Nat → Bool} {held : Bool} {t : TypeId} {a : Option Addr} {len cap : Nat} {d : DataW H} {ps : List MemPlace}
    (ht : Tryd.prog.underlying t = some (.slice 78)) (h : DataW.Trod enc Tryd.prog w base spare held t (.slice a len cap) d ps) :
    len = 0 ∨ ∃ A B, d = .slice A B ∧ len ≤ A.length + B.length := by
  obtain ⟨fuel, hf⟩ := h
  rcases open_slice_fields ht opDesc (by kernel_rfl) (by kernel_rfl) hf with ⟨hcs, _⟩ | ⟨x, l, c, m, D, Pl, hcs, _, hl, hm, hmm, hx, hi⟩
  · simp [Value.cells] at hcs
    exact .inl hcs.2.1
  · simp [Value.cells] at hcs
    obtain ⟨rfl, rfl, rfl⟩ := hcs
    simp only [Prod.mk.injEq] at hx
    exact .inr ⟨_, _, hx.1, by simp⟩
theorem ops_bound {H : Type} {ts : List TypeId} {ds : List (DataW H)} (hsz : (DataW.weightsEach Tryd.prog ts ds).all (· ≤ reachBytes) = true) {j : Nat} {t : TypeId} {len : Nat} {d : DataW H} (ht : ts[j]? = some t) (hu : Tryd.prog.underlying t = some (.slice 78)) (hd : ds[j]? = some d)
    (h : len = 0 ∨ ∃ A B, d = .slice A B ∧ len ≤ A.length + B.length) : len * 24 ≤ 140737488355328 := by
  rcases h with rfl | ⟨A, B, rfl, hl⟩
  · omega
  · have := sized_slice hsz ht hd hu
    rw [opBytes] at this
    simp only [reachBytes] at this
    omega
end Go.Proofs.YtjgdhlpnpihkdaaDoor
/- The statement RelativeOthers: its walk joined to the given row and card. -/
namespace Go.Proofs.YtjgdhlpnpihkdaaDoor.relativeOthers
open Go.ChangeShapes Go.WideShapes Go.ChangeAt Go.RowKit Dsd
open Go.ChangeMaps (open_string shut_string)
set_option maxRecDepth 100000
theorem own : ownKnob Tryd.prog.godebug = none := by kernel_rfl
theorem laidOut : laidOutB Tryd.prog = true := by kernel_rfl

/-- What the walk gives, for every argument and every world. -/
theorem contract (H : Type) (enc : TypeId × Value → H) (W : World) (base : Nat) (args : Array Value) (ds gs : List (DataW H)) (before : List MemPlace)
    (hval : ∀ (j : Nat) t v, Tryd.f9.params[j]? = some t → args[j]? = some v → Value.okWide Tryd.prog W .any base t v) {vt : List TypeId} (hsz : (DataW.weightsEach Tryd.prog (Tryd.f9.params.toList ++ vt) (ds ++ gs)).all (· ≤ reachBytes) = true)
    (hW : DataW.Whole enc Tryd.prog Tryd.f9.params.toList Rows.relativeOthersSpec.vars false W args.toList ds gs before) :
    Calls Tryd.prog 9 args W fun e W' => ∃ v, e = .returned v ∧ Rows.relativeOthersSpec.post enc Tryd.prog Tryd.f9 false true false false W args v W' := by
  have hW' := hW
  obtain ⟨p, q, hA0, hV, rfl, hfz, hnd⟩ := hW
  have hA : DataW.TrodAll enc Tryd.prog W 0 (fun _ => true) true Tryd.f9.params.toList args.toList ds p := hA0
  rw [Tryd.params9] at hA hval hsz
  obtain ⟨v0, vs0, d0, ds0, p0, q0, hargs, rfl, rfl, h0, r0⟩ := trodAll_cons hA
  obtain ⟨v1, vs1, d1, ds1, p1, q1, rfl, rfl, rfl, h1, r1⟩ := trodAll_cons r0
  obtain ⟨v2, vs2, d2, ds2, p2, q2, rfl, rfl, rfl, h2, r2⟩ := trodAll_cons r1
  obtain ⟨rfl, rfl, rfl⟩ := trodAll_nil r2
  obtain rfl : args = #[v0, v1, v2] := by cases args; simp_all
  obtain ⟨rfl, rfl⟩ := trodVars_none hV
  have k0 := h0
  have lt0 : ∀ x ∈ p0, x.block < W.heap.size := by obtain ⟨m, hm⟩ := k0; exact DataW.trod_lt m _ _ _ hm
  obtain ⟨x0, rfl⟩ := open_ds (hval 0 26 v0 rfl rfl) h0
  obtain ⟨a1, len1, cap1, rfl⟩ := okWide_slice Tryd.underlying74 (hval 1 74 v1 rfl rfl)
  have k1 := h1
  have lt1 : ∀ x ∈ p1, x.block < W.heap.size := by obtain ⟨m, hm⟩ := k1; exact DataW.trod_lt m _ _ _ hm
  obtain ⟨L1, hs1, hl1, hc1, hm1, hw1⟩ := open_ops Tryd.underlying74 h1
  have hb1 := ops_bound hsz (j := 1) (t := 74) rfl Tryd.underlying74 rfl (ops_read Tryd.underlying74 h1)
  have k2 := h2
  have lt2 : ∀ x ∈ p2, x.block < W.heap.size := by obtain ⟨m, hm⟩ := k2; exact DataW.trod_lt m _ _ _ hm
  obtain ⟨x2, y2, rfl, w2r, w2s⟩ := open_op (hval 2 78 v2 rfl rfl) h2
  clear hA0 hval
  have walk := RelativeOthers_any a1 cap1 len1 L1 x0 x2 y2 W hs1 hl1 hc1 hm1 hb1 hw1 w2r w2s
  refine walk.mono fun e W' ⟨he, bel⟩ => ?_
  subst he
  exact ⟨_, rfl, _, _, _, [], _, [], hW', trodAll_mk1 (shut_bool Tryd.underlying4 _), (trodAll_cons_mk (Below.trod laidOut (by kernel_rfl) (of_decide_eq_true (by kernel_rfl)) k0 bel lt0) (trodAll_cons_mk (Below.trod laidOut (by kernel_rfl) (of_decide_eq_true (by kernel_rfl)) k1 bel lt1) (trodAll_cons_mk (Below.trod laidOut (by kernel_rfl) (of_decide_eq_true (by kernel_rfl)) k2 bel lt2) trodAll_mk0))), rfl, bel.frame _, fun h => by cases h⟩

/-- The world of the witness: its tables laid. -/
noncomputable def laidWorld (os : Os) : World := World.laidAll Tryd.prog os Rows.relativeOthersRow.laid
theorem laid_met (os : Os) : laidMet Tryd.prog Rows.relativeOthersRow.laid ((laidWorld os).forCall (fun _ _ => 0) ⟨#[], #[.agg #[.int .i64 0, .int .i64 0, .int .i64 0, .int .i64 0, .int .i64 0, .int .i64 0, .int .i64 0, .int .i64 0, .int .i64 0, .int .i64 0, .int .i64 0, .int .i64 0, .int .i64 0, .int .i64 0, .bool false, .int .i64 0, .string ⟨#[]⟩, .string ⟨#[]⟩, .int .i64 0, .int .i64 0, .bool false], .slice none 0 0, .agg #[.int .i64 0, .string ⟨#[]⟩]], []⟩).memory :=
  laidMet_laidAll _ (by kernel_rfl) (by kernel_rfl)
theorem reads (os : Os) {H : Type} (enc : TypeId × Value → H) : ∃ places, DataW.whole enc Tryd.prog ((laidWorld os).forCall (fun _ _ => 0) ⟨#[], #[.agg #[.int .i64 0, .int .i64 0, .int .i64 0, .int .i64 0, .int .i64 0, .int .i64 0, .int .i64 0, .int .i64 0, .int .i64 0, .int .i64 0, .int .i64 0, .int .i64 0, .int .i64 0, .int .i64 0, .bool false, .int .i64 0, .string ⟨#[]⟩, .string ⟨#[]⟩, .int .i64 0, .int .i64 0, .bool false], .slice none 0 0, .agg #[.int .i64 0, .string ⟨#[]⟩]], []⟩).memory Tryd.f9.params.toList Rows.relativeOthersSpec.vars false (#[.agg #[.int .i64 0, .int .i64 0, .int .i64 0, .int .i64 0, .int .i64 0, .int .i64 0, .int .i64 0, .int .i64 0, .int .i64 0, .int .i64 0, .int .i64 0, .int .i64 0, .int .i64 0, .int .i64 0, .bool false, .int .i64 0, .string ⟨#[]⟩, .string ⟨#[]⟩, .int .i64 0, .int .i64 0, .bool false], .slice none 0 0, .agg #[.int .i64 0, .string ⟨#[]⟩]] : Array Value).toList 8 = some ([.agg [.lit (.int .i64 0), .lit (.int .i64 0), .lit (.int .i64 0), .lit (.int .i64 0), .lit (.int .i64 0), .lit (.int .i64 0), .lit (.int .i64 0), .lit (.int .i64 0), .lit (.int .i64 0), .lit (.int .i64 0), .lit (.int .i64 0), .lit (.int .i64 0), .lit (.int .i64 0), .lit (.int .i64 0), .lit (.bool false), .lit (.int .i64 0), .lit (.string []), .lit (.string []), .lit (.int .i64 0), .lit (.int .i64 0), .lit (.bool false)], .nil, .agg [.lit (.int .i64 0), .lit (.string [])]], [], places) :=
  ⟨[], by kernel_rfl⟩

theorem lifted (os : Os) (started : os.Started) (H : Type) (enc : TypeId × Value → H) (F : Stop.Interp) :
    ReturnsInHanded {} Tryd.checked os 9 .any ((OpenSpec.ofChange Rows.relativeOthersSpec).preRow enc Tryd.prog Tryd.f9 Rows.relativeOthersRow.domain false Rows.relativeOthersRow.laid) (((OpenSpec.ofChange Rows.relativeOthersSpec).at F).post enc Tryd.prog Tryd.f9 false true false false) := by
  obtain ⟨places, hx⟩ := reads os enc
  refine returnsInHanded_of_row (C := Tryd.checked) (s := OpenSpec.ofChange Rows.relativeOthersSpec) own started (by kernel_rfl) Tryd.func9
    (witness_row_at (enc := enc) (C := Tryd.checked) false (laidWorld os) #[.agg #[.int .i64 0, .int .i64 0, .int .i64 0, .int .i64 0, .int .i64 0, .int .i64 0, .int .i64 0, .int .i64 0, .int .i64 0, .int .i64 0, .int .i64 0, .int .i64 0, .int .i64 0, .int .i64 0, .bool false, .int .i64 0, .string ⟨#[]⟩, .string ⟨#[]⟩, .int .i64 0, .int .i64 0, .bool false], .slice none 0 0, .agg #[.int .i64 0, .string ⟨#[]⟩]] (World.laidAll_os _ _ _) (by kernel_rfl) (by kernel_rfl) (by kernel_rfl)
      (OpenSpec.preRow_of_cond 8 hx (by kernel_rfl) (fun k hk => by cases hk) (by kernel_rfl) (laid_met os))) ?_
  intro W base args ds gs before hval hW _ _ hsz hL _ _
  exact contract H enc W base args ds gs before hval hsz hW

theorem said : Rows.RelativeOthersSaid :=
  OpenClaim.holds_of_cond 9 Tryd.f9 rfl rfl rfl rfl rfl rfl rfl ⟨rfl, rfl, rfl, rfl, rfl⟩ rfl rfl rfl rfl rfl (by kernel_rfl) Tryd.func9 (by kernel_rfl)
    (of_decide_eq_true (by kernel_rfl)) (by unfold Func.isWrapper; first | (rw [if_pos (by decide +kernel)]; kernel_rfl) | (rw [if_neg (by decide +kernel)]; exact ⟨rfl, rfl⟩))
    (fun os started H enc _ F => by rw [OpenClaim.pre_eq_preRow]; exact lifted os started H enc F)

theorem plain (f : FuncId) (fn : Func) (hf : Tryd.pinned.checked.prog.funcNamed Tryd.f9.name = some f) (hfn : Tryd.pinned.checked.prog.funcs[f]? = some fn) :
    false = Tryd.pinned.checked.prog.looks [] ∧ ∀ (j : Nat) t, fn.params[j]? = some t → Tryd.pinned.checked.prog.wantsStandIn t = false := by
  obtain rfl : f = 9 := Option.some.inj ((show Tryd.prog.funcNamed Tryd.f9.name = some 9 by kernel_rfl).symm.trans hf) |>.symm
  obtain rfl : fn = Tryd.f9 := (Option.some.inj (Tryd.func9.symm.trans hfn)).symm
  refine ⟨by kernel_rfl, fun j t ht => ?_⟩
  rw [Tryd.params9] at ht
  have hm : t ∈ #[26, 74, 78] := Array.mem_of_getElem? ht
  have hall : (#[26, 74, 78].all fun t => !Tryd.prog.wantsStandIn t) = true := by kernel_rfl
  have := (Array.all_eq_true'.1 hall) t hm
  exact (show Tryd.prog.wantsStandIn t = false by simpa using this)

/-- The statement. -/
theorem card : Rows.RelativeOthersCardSaid :=
  Claim7.holds_tied_plain_at .later [] _ _ _ _ said (fun _ h => by cases h) (by kernel_rfl) (fun _ h => by cases h) relativeOthers_row_tie rfl ⟨rfl, rfl⟩ (by kernel_rfl) rfl plain (by kernel_rfl)
end Go.Proofs.YtjgdhlpnpihkdaaDoor.relativeOthers
