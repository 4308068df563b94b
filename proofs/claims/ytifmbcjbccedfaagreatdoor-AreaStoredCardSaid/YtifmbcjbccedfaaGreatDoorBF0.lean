/- A part of the proof. -/
import Derived.Test.YtifmbcjbccedfaaGreatDoorBE0
import Derived.Test.YtifmbcjbccedfaaGreatDoorCM
import Derived.Test.YtifmbcjbccedfaaGreatDoorCF
import Derived.Test.YtifmbcjbccedfaaGreatDoorX18

set_option linter.unusedSimpArgs false
set_option linter.unusedVariables false
namespace Go.Proofs.YtifmbcjbccedfaaGreatDoor
open Go.RowKit Dsd
theorem shortA_spec {L : List AOp} {most : Int} (h : shortA L most = true) : (L.length : Int) ≤ most ∧ ∀ i, (L.getD i ([], false)).1.length ≤ 300 := by
 unfold shortA at h
 simp only [Bool.and_eq_true, List.all_eq_true, decide_eq_true_eq] at h
 refine ⟨h.2, fun i => ?_⟩
 by_cases hi : i < L.length
 · rw [List.getD_eq_getElem?_getD, List.getElem?_eq_getElem hi]; exact h.1 _ (List.getElem_mem hi)
 · rw [List.getD_eq_getElem?_getD, List.getElem?_eq_none (by omega)]; simp
def PrG (p B : Nat) (Pw : World → Prop) : Nat → World → Prop := fun i w => if i = p then Pw w ∧ B ≤ w.heap.size else B ≤ w.heap.size
theorem PrG.at {p B : Nat} {Pw : World → Prop} {w : World} (h : PrG p B Pw p w) : Pw w ∧ B ≤ w.heap.size := by simpa [PrG] using h
theorem PrG.size {p s B : Nat} {Pw : World → Prop} {w : World} (hne : s ≠ p) (h : PrG p B Pw s w) : B ≤ w.heap.size := by simpa [PrG, hne] using h
end Go.Proofs.YtifmbcjbccedfaaGreatDoor
namespace Dsd
open Go Go.RowKit
def opsC (L : List AOp) : List Value := L.flatMap fun x => [.string ⟨x.1.toArray⟩, .bool x.2]
theorem opsC_cons (x : AOp) (L : List AOp) : opsC (x :: L) = .string ⟨x.1.toArray⟩ :: .bool x.2 :: opsC L := rfl
theorem opsC_app (A B : List AOp) : opsC (A ++ B) = opsC A ++ opsC B := by unfold opsC; rw [List.flatMap_append]
theorem opsC_len : ∀ (L : List AOp), (opsC L).length = L.length * 2
 | [] => rfl
 | x :: L => by have := opsC_len L; rw [opsC_cons, List.length_cons, List.length_cons, List.length_cons, this]; omega
theorem opsC_at : ∀ (L : List AOp) (i : Nat), i < L.length → (opsC L)[i * 2]? = some (.string ⟨(L.getD i ([], false)).1.toArray⟩) ∧ (opsC L)[i * 2 + 1]? = some (.bool (L.getD i ([], false)).2)
 | [], i, h => by simp at h
 | x :: L, 0, _ => by simp [opsC_cons]
 | x :: L, i + 1, h => by
   have ih := opsC_at L i (by simpa using h)
   rw [opsC_cons, show (i + 1) * 2 = i * 2 + 2 by omega]
   exact ⟨by simpa using ih.1, by simpa using ih.2⟩
theorem opsC_one (L : List AOp) : ∀ u ∈ opsC L, u.oneCell' = true := by
 intro u hu
 unfold opsC at hu
 obtain ⟨x, _, hx⟩ := List.mem_flatMap.1 hu
 simp at hx
 rcases hx with rfl | rfl <;> rfl
end Dsd
namespace Go.Proofs.YtifmbcjbccedfaaGreatDoor
open Go.RowKit Dsd
theorem aops_cells {w : World} {p : Option Addr} {L : List AOp} (h : Cells w p (opsC L)) : AOps w p L := by
 rcases h with h | ⟨b, off, hp, hb, hc⟩
 · refine .inl (List.eq_nil_of_length_eq_zero ?_)
   have := opsC_len L
   rw [h] at this
   simp at this; omega
 · refine .inr ⟨b, off, hp, hb, fun i hi => ?_⟩
   obtain ⟨h1, h2⟩ := opsC_at L i hi
   have hl := opsC_len L
   have k1 := hc (i * 2) (by omega)
   have k2 := hc (i * 2 + 1) (by omega)
   simp only [List.getD, h1, h2, Option.getD_some] at k1 k2
   exact ⟨k1, k2⟩
theorem cells_aops {w : World} {p : Option Addr} {L : List AOp} (h : AOps w p L) : Cells w p (opsC L) := by
 rcases h with rfl | ⟨b, off, hp, hb, hc⟩
 · exact .inl rfl
 · refine .inr ⟨b, off, hp, hb, fun j hj => ?_⟩
   have hl := opsC_len L
   have hi : j / 2 < L.length := by omega
   obtain ⟨h1, h2⟩ := opsC_at L (j / 2) hi
   obtain ⟨k1, k2⟩ := hc (j / 2) hi
   rcases Nat.mod_two_eq_zero_or_one j with e | e
   · have e2 : j = j / 2 * 2 := by omega
     rw [← e2] at h1 k1
     rw [k1]
     simp only [List.getD, h1, Option.getD_some]
   · have e2 : j = j / 2 * 2 + 1 := by omega
     have k2' : w.cell? ⟨b, off + (j / 2 * 2 + 1), none⟩ = some (.bool (L.getD (j / 2) ([], false)).2) := k2
     rw [← e2] at h2 k2'
     rw [k2']
     simp only [List.getD, h2, Option.getD_some]
theorem aops_src {w : World} {q : Option Addr} {L : List AOp} (h : AOps w q L) : 0 < L.length → ∃ ad, q = some ad ∧ ∀ j u, (opsC L)[j]? = some u → w.cell? (ad.add j) = some u := by
 intro h0
 rcases cells_aops h with h | ⟨b, off, rfl, hb, hc⟩
 · have := opsC_len L
   rw [h] at this
   simp at this; omega
 · refine ⟨⟨b, off, none⟩, rfl, fun j u hj => ?_⟩
   have hl : j < (opsC L).length := (List.getElem?_eq_some_iff.1 hj).1
   have := hc j hl
   simp only [List.getD, hj, Option.getD_some] at this
   rw [addr_add]
   exact this
theorem infoOpA : (Tryz.prog.info? 85).map (fun i => (i.zero, i.size, i.bytes)) = some (some (.agg #[.string ByteArray.empty, .bool false]), 2, 24) := by kernel_rfl
theorem wp_appOp {w : World} {o : Oper} {a : Act} {K : Act → World → Prop} {Q : Exit → Act → World → Prop} (d s : Operand)
   (ho : o.op = .call { callee := .builtin .append, args := #[d, s], argTypes := #[45, 45] }) (base : Nat) (v : Value) (n : Nat) (xs : List Value) (hv : a.eval d = v) (hown : w.ownsRow base 85 2 v n xs) (p : Option Addr) (m c : Nat) (news : List Value) (hs : a.eval s = .slice p m c) (hl : news.length = m * 2) (hc : Cells w p news)
   (h1 : ∀ u ∈ news, u.oneCell' = true) (hn : n + m ≤ 100000000) (hbase : base ≤ w.heap.size)
   (h : ∀ v' w', w'.ownsRow base 85 2 v' (n + m) (xs ++ news) → w.grownBy w' v.ownBlock → K (a.put o.dst v') w') : o.wp Tryz.prog a w K Q := by
 by_cases hm : m = 0
 · subst hm
   obtain rfl : news = [] := List.eq_nil_of_length_eq_zero (by omega)
   obtain ⟨q, k, rfl⟩ := own_slice hown
   obtain ⟨_, hle, _⟩ := own_cellsK hown
   obtain ⟨i0, hi0, hz0, hzs, hzb⟩ := info_parts infoOpA
   have hr : (Builtin.append_ #[45, 45] o.type #[.slice q n k, .slice p 0 c]).run Tryz.prog w = .ok (.slice q n k) w := by
     cases p <;> cases q <;> simp [Builtin.append_, run_underlying Tryz.underlying45, Go.sizeOf, typeInfo, hi0, Builtin.lenOf, Builtin.firstCells, loadCells, loadCellsFrom, Go.storeCells, hle]
   exact Lib.wp_append_run w d s _ _ ho _ _ hv hs _ _ hr (h _ _ (by simpa using hown) ⟨rfl, rfl, rfl, Nat.le_refl _, fun _ _ _ => rfl⟩)
 · obtain ⟨ad, rfl⟩ : ∃ ad, p = some ad := by
     obtain ⟨b, off, h, _⟩ := hc.at 0 (by omega)
     exact ⟨_, h⟩
   exact wp_appk d s 45 85 ho base (.agg #[.string ByteArray.empty, .bool false]) 2 24 Tryz.underlying45 infoOpA rfl (by decide) v n xs hv hown (some ad) m c news hs rfl hl hc h1 hn (by decide) hbase h
def RunBF (d : DS) : Fact := fun x w => ∃ b q c p m mb, x = .tuple #[.agg (arC b q c p m), .map (some mb), .bool true] ∧ ArV w b q c p m ∧ AInv d b ∧ b.base = 1
theorem RunBF.stable (d : DS) : (RunBF d).stable := fun _ _ _ he ⟨b, q, c, p, m, mb, h1, h2, h3⟩ => ⟨b, q, c, p, m, mb, h1, h2.ext he, h3⟩
def RdF (b : Ar) : Fact := fun x w => ∃ q c p m, x = .tuple #[.agg (arC b q c p m), .int .i64 0] ∧ ArV w b q c p m
theorem RdF.stable (b : Ar) : (RdF b).stable := fun _ _ _ he ⟨q, c, p, m, h1, h2⟩ => ⟨q, c, p, m, h1, h2.ext he⟩
theorem own_wrtsT {w : World} {B n c : Nat} {q : Option Addr} {L : List Wr} (h : w.ownsRow B 91 2 (.slice q n c) n (wrC L)) : Wrts w q L ∧ L.length = n := by
 have hl := h.1
 rw [wrC_len] at hl
 by_cases h0 : n = 0
 · exact ⟨.inl (List.eq_nil_of_length_eq_zero (by omega)), by omega⟩
 · obtain ⟨g, _, rfl, _⟩ := own_parts h (by omega)
   exact ⟨rowW_wrts (own_rowW h).1, by omega⟩
def BF (d : DS) : Fact := fun x w => ∃ b q c p m, x = .agg (arC b q c p m) ∧ ArV w b q c p m ∧ AInv d b ∧ b.base = 1
theorem BF.stable (d : DS) : (BF d).stable := fun _ _ _ he ⟨b, q, c, p, m, h1, h2, h3⟩ => ⟨b, q, c, p, m, h1, h2.ext he, h3⟩
def KeepT (t : TypeId) (w w' : World) : Prop := ∀ b cs, Blk w b (.cells cs t) → Blk w' b (.cells cs t)
theorem Cells.keepT {w w' : World} {q : Option Addr} {t : TypeId} {xs : List Value} (h : Cells w q xs) (ht : Typ w q t) (k : KeepT t w w') : Cells w' q xs := by
 rcases h with h | ⟨g, o, rfl, hl, hc⟩
 · exact .inl h
 · obtain ⟨cur, h1⟩ := ht g o rfl
   have h2 := k _ _ h1
   refine .inr ⟨g, o, rfl, Blk.lt h2, fun i hi => ?_⟩
   rw [← hc i hi]
   have e : w'.heap[g]? = w.heap[g]? := h2.trans h1.symm
   simp only [World.cell?, e]
theorem Typ.keepT {w w' : World} {q : Option Addr} {t : TypeId} (h : Typ w q t) (k : KeepT t w w') : Typ w' q t := fun g o hq => by
 obtain ⟨cur, hc⟩ := h g o hq
 exact ⟨cur, k _ _ hc⟩
theorem RowV.keepT {w w' : World} {v : Value} {L : Recs} (h : RowV w v L) (k : KeepT 9 w w') : RowV w' v L := by
 obtain ⟨q, c, h1, h2, h3, h4, h5, h6⟩ := h
 exact ⟨q, c, h1, Cells.keepT h2 h6 k, h3, h4, h5, h6.keepT k⟩
theorem ArV.keepT {w w' : World} {a : Ar} {q : Option Addr} {c : Nat} {p : Option Addr} {m : Nat} (h : ArV w a q c p m) (k1 : KeepT 9 w w') (k2 : KeepT 30 w w') (k3 : KeepT 63 w w') : ArV w' a q c p m := by
 obtain ⟨vs, g1, g2, g3⟩ := h.ivs
 exact ⟨Cells.keepT h.ents h.te k3, ⟨vs, Cells.keepT g1 h.tp k2, g2, fun i hi => (g3 i hi).keepT k1⟩, h.ec, h.ic, h.im, h.te.keepT k3, h.tp.keepT k2⟩
def RS (B : Nat) : Nat → Rel := fun i w w' => if i = 12 then (∃ b cs cs', B ≤ b ∧ Blk w b (.cells cs 29) ∧ cs'.size = cs.size ∧ Chg b w w' ∧ Blk w' b (.cells cs' 29)) else RTy B 85 w w'
theorem RS.below {B i : Nat} {w w' : World} (h : RS B i w w') : Below B w w' := by
 unfold RS at h
 split at h
 · obtain ⟨b, cs, cs', h1, h2, h3, c, h5⟩ := h
   exact ⟨c.os, c.tape, c.output, by have := c.size; have := Blk.lt h2; omega, fun k hk => c.block k (by omega)⟩
 · exact h.1
theorem RS.keepT {B i : Nat} {w w' : World} {t : TypeId} (h : RS B i w w') (h1 : t ≠ 85) (h2 : t ≠ 29) : KeepT t w w' := fun g cu hg => by
 unfold RS at h
 split at h
 · obtain ⟨b, cs, cs', _, h3, _, c, _⟩ := h
   exact c.blk hg (ndBlk hg h3 h2)
 · exact h.2 g cu t h1 hg
theorem RS.area {B i : Nat} {w w' : World} (h : RS B i w w') {b : Nat} {cs : Array Value} (hb : Blk w b (.cells cs 29)) : ∃ cs', cs'.size = cs.size ∧ Blk w' b (.cells cs' 29) := by
 unfold RS at h
 split at h
 · obtain ⟨b', cs1, cs', _, h3, h4, c, h5⟩ := h
   by_cases e : b = b'
   · subst e
     have := h3.symm.trans hb
     simp at this
     subst this
     exact ⟨cs', h4, h5⟩
   · exact ⟨cs, rfl, c.blk hb e⟩
 · exact ⟨cs, rfl, h.2 b cs _ (by decide) hb⟩
def PtrA (B : Nat) : Fact := fun x w => ∃ b cs, x = .pointer (some ⟨b, 0, none⟩) ∧ Blk w b (.cells cs 29) ∧ cs.size = 5 ∧ B ≤ b
theorem PtrA.stable (B : Nat) : (PtrA B).stable := fun _ _ _ he ⟨b, cs, h1, h2, h3, h4⟩ => ⟨b, cs, h1, he.blk _ _ h2, h3, h4⟩
theorem PtrA.strong (B0 : Nat) (K : Kills) (B : Nat) : (PtrA B0).strong K (RS B) := fun _ _ _ _ _ r ⟨b, cs, h1, h2, h3, h4⟩ => by
 obtain ⟨cs', k1, k2⟩ := r.area h2
 exact ⟨b, cs', h1, k2, by omega, h4⟩
def PtrBF (d : DS) (B : Nat) : Fact := fun x w => ∃ bb b q c p m, x = .pointer (some ⟨bb, 0, none⟩) ∧ ArAt w bb b q c p m ∧ ArV w b q c p m ∧ AInv d b ∧ b.base = 1 ∧ B ≤ bb
theorem PtrBF.stable (d : DS) (B : Nat) : (PtrBF d B).stable := fun _ _ _ he ⟨bb, b, q, c, p, m, h1, h2, h3, h4⟩ => ⟨bb, b, q, c, p, m, h1, h2.ext he, h3.ext he, h4⟩
theorem RunBF.strongS (d : DS) (K : Kills) (B : Nat) : (RunBF d).strong K (RS B) := fun _ _ _ _ _ r ⟨b, q, c, p, m, mb, h1, h2, h3⟩ => ⟨b, q, c, p, m, mb, h1, h2.keepT (r.keepT (by decide) (by decide)) (r.keepT (by decide) (by decide)) (r.keepT (by decide) (by decide)), h3⟩
def GS (d : DS) (B : Nat) : Nat → Nat → Fact := fun p j => if p = 12 ∧ j = 11 then PtrBF d B else Any
def KS : Kills := [(5, [(1, 46), (3, 48)]), (12, [(1, 46), (3, 48), (5, 50), (8, 52), (11, 10)])]
theorem gok_st {d : DS} {l : List Oper} {w0 : World} (hm : mustB .any l 11 12 = true) : GOk l w0 KS (RS w0.heap.size) (GS d w0.heap.size) := by
 refine ⟨fun i w w' h => h.below, fun i j => ?_, fun p j i hk hp hne x w w' r h => ?_, fun p j hk => ?_⟩
 · unfold GS; split
   · exact PtrBF.stable _ _
   · exact Any.stable
 · unfold GS at *
   split at h
   · rename_i hc
     have hi : i = 5 := by
       simp [pivB, KS] at hp
       omega
     subst hi
     rw [if_pos hc]
     obtain ⟨bb, b, q, c, p, m, h1, h2, h3, h4⟩ := h
     refine ⟨bb, b, q, c, p, m, h1, ?_, h3.keepT (r.keepT (by decide) (by decide)) (r.keepT (by decide) (by decide)) (r.keepT (by decide) (by decide)), h4⟩
     unfold RS at r
     rw [if_neg (by decide)] at r
     exact r.2 _ _ _ (by decide) h2
   · rename_i hc
     rw [if_neg hc]; trivial
 · unfold GS
   split
   · rename_i hc
     obtain ⟨rfl, rfl⟩ := hc
     exact .inr hm
   · exact .inl rfl
theorem RdF.strong (a : Ar) (K : Kills) (B : Nat) : (RdF a).strong K (fun _ => TChg B 29) := fun _ _ _ _ _ ⟨_, _, _, hb, k⟩ ⟨q, c, p, m, h1, h2⟩ => ⟨q, c, p, m, h1, h2.chgA hb (by decide) (by decide) (by decide) k⟩
end Go.Proofs.YtifmbcjbccedfaaGreatDoor
namespace Go.Proofs.YtifmbcjbccedfaaGreatDoor
open Go.RowKit Dsd
set_option maxRecDepth 100000 in
set_option maxHeartbeats 4000000 in
theorem AreaStored_any (pl : Option Addr) (capl nl : Nat) (L : List AOp) (pm : Option Addr) (capm nm : Nat) (M : List AOp) (d : DS) (w : World) (hsl : AOps w pl L) (hnl : L.length = nl) (hcl : nl ≤ capl) (hml : capl ≤ maxLen) (hsm : AOps w pm M) (hnm : M.length = nm) (hcm : nm ≤ capm) (hmm : capm ≤ maxLen) :
   Calls Tryz.prog 4 #[.agg #[.int .i64 d.id, .int .i64 d.org, .int .i64 d.format, .int .i64 d.length, .int .i64 d.block, .int .i64 d.keyAt, .int .i64 d.keyLength, .int .i64 d.interval, .int .i64 d.area, .int .i64 d.freeInterval, .int .i64 d.freeArea, .int .i64 d.base, .int .i64 d.altAt, .int .i64 d.altLength, .bool d.unique, .int .i64 d.cls, .string ⟨d.volume.toArray⟩, .string ⟨d.owner.toArray⟩, .int .i64 d.created, .int .i64 d.expires, .bool d.archived], .slice pl nl capl, .slice pm nm capm] w fun e w' => e = .returned (.bool true) ∧ Ext w w' := by
 have hx0 := Ext.alloc w (.cells #[.int .i64 d.id, .int .i64 d.org, .int .i64 d.format, .int .i64 d.length, .int .i64 d.block, .int .i64 d.keyAt, .int .i64 d.keyLength, .int .i64 d.interval, .int .i64 d.area, .int .i64 d.freeInterval, .int .i64 d.freeArea, .int .i64 d.base, .int .i64 d.altAt, .int .i64 d.altLength, .bool d.unique, .int .i64 d.cls, .string ⟨d.volume.toArray⟩, .string ⟨d.owner.toArray⟩, .int .i64 d.created, .int .i64 d.expires, .bool d.archived] 23)
 have hb0 := Blk.new w (.cells #[.int .i64 d.id, .int .i64 d.org, .int .i64 d.format, .int .i64 d.length, .int .i64 d.block, .int .i64 d.keyAt, .int .i64 d.keyLength, .int .i64 d.interval, .int .i64 d.area, .int .i64 d.freeInterval, .int .i64 d.freeArea, .int .i64 d.base, .int .i64 d.altAt, .int .i64 d.altLength, .bool d.unique, .int .i64 d.cls, .string ⟨d.volume.toArray⟩, .string ⟨d.owner.toArray⟩, .int .i64 d.created, .int .i64 d.expires, .bool d.archived] 23)
 subst hnl hnm
 have hq1 : L.length ≤ 9223372036854775807 := by unfold maxLen at hml; omega
 have hq2 : M.length ≤ 9223372036854775807 := by unfold maxLen at hmm; omega
 have HSl := Lib.hid (fun W (h : AOps W pl L) => ShortA_any pl capl L 60 W h hq1)
 have HSm := Lib.hid (fun W (h : AOps W pm M) => ShortA_any pm capm M 20 W h hq2)
 have HKe := Lib.hid (fun W => IsKeyedR_any d W)
 have Hsl := Lib.hid hsl
 have Hsm := Lib.hid hsm
 clear hsl hsm
 cases hk : keyedB d
 · rw [hk] at HKe
   clear hk hcl hml hcm hmm hq1 hq2
   generalize L.length = nl at *
   generalize M.length = nm at *
   go_enter Tryz.func4, Tryz.ntmps4
   go_upto_region 1 with (fail)
   refine wp_name (fun w0 => Ext w w0 ∧ DsAt w0 w.heap.size d) ⟨hx0, hb0⟩ ?_
   clear hx0 hb0
   rintro w0 ⟨he0, hd0⟩
   go_upto_region 3 with (go_at_call 5; refine (awakeA_any _).mono ?_; rintro e w1 ⟨rfl, he1⟩)
   have hd1 := hd0.ext he1
   go_wp2_with (first
     | (refine wpList_ds (o := ⟨some 24, _, _, _, _, _⟩) rfl (.tmp 3) rfl _ rfl d hd1 ?_)
     | (go_at_call 16; refine (HKe.out _).mono ?_; rintro e w2 ⟨rfl, he2⟩))
   go_ret
   exact ⟨rfl, (he0.trans he1).trans he2⟩
 · rw [hk] at HKe
   cases hsl : shortA L 60
   · rw [hsl] at HSl
     clear hk hsl hcl hml hcm hmm hq1 hq2
     generalize L.length = nl at *
     generalize M.length = nm at *
     go_enter Tryz.func4, Tryz.ntmps4
     go_upto_region 1 with (fail)
     refine wp_name (fun w0 => Ext w w0 ∧ DsAt w0 w.heap.size d) ⟨hx0, hb0⟩ ?_
     clear hx0 hb0
     rintro w0 ⟨he0, hd0⟩
     go_upto_region 3 with (go_at_call 5; refine (awakeA_any _).mono ?_; rintro e w1 ⟨rfl, he1⟩)
     have hd1 := hd0.ext he1
     go_wp2_with (first
       | (refine wpList_ds (o := ⟨some 24, _, _, _, _, _⟩) rfl (.tmp 3) rfl _ rfl d hd1 ?_)
       | (go_at_call 16; refine (HKe.out _).mono ?_; rintro e w2 ⟨rfl, he2⟩)
       | (go_at_call 17; refine (HSl.out _ (Hsl.out.ext ((he0.trans he1).trans he2))).mono ?_; rintro e w3 ⟨rfl, rfl⟩))
     go_ret
     exact ⟨rfl, (he0.trans he1).trans he2⟩
   · rw [hsl] at HSl
     cases hsm : shortA M 20
     · rw [hsm] at HSm
       clear hk hsl hsm hcl hml hcm hmm hq1 hq2
       generalize L.length = nl at *
       generalize M.length = nm at *
       go_enter Tryz.func4, Tryz.ntmps4
       go_upto_region 1 with (fail)
       refine wp_name (fun w0 => Ext w w0 ∧ DsAt w0 w.heap.size d) ⟨hx0, hb0⟩ ?_
       clear hx0 hb0
       rintro w0 ⟨he0, hd0⟩
       go_upto_region 3 with (go_at_call 5; refine (awakeA_any _).mono ?_; rintro e w1 ⟨rfl, he1⟩)
       have hd1 := hd0.ext he1
       go_wp2_with (first
         | (refine wpList_ds (o := ⟨some 24, _, _, _, _, _⟩) rfl (.tmp 3) rfl _ rfl d hd1 ?_)
         | (go_at_call 16; refine (HKe.out _).mono ?_; rintro e w2 ⟨rfl, he2⟩)
         | (go_at_call 17; (with_reducible refine (HSl.out _ (Hsl.out.ext ((he0.trans he1).trans he2))).mono ?_); rintro e w3 ⟨rfl, rfl⟩)
         | (go_at_call 17; (with_reducible refine (HSm.out _ (Hsm.out.ext ((he0.trans he1).trans he2))).mono ?_); rintro e w3 ⟨rfl, rfl⟩))
       go_ret
       exact ⟨rfl, (he0.trans he1).trans he2⟩
     · rw [hsm] at HSm
       obtain ⟨l1, l2⟩ := shortA_spec hsl
       obtain ⟨m1, m2⟩ := shortA_spec hsm
       have HRa := Lib.hid (fun W (h : AOps W pl L) => RunA_any d pl capl L W h hk (by omega) l2)
       have HRb : Hid (∀ W q c, AOps W q (L ++ M) → Calls Tryz.prog 18 #[.agg #[.int .i64 d.id, .int .i64 d.org, .int .i64 d.format, .int .i64 d.length, .int .i64 d.block, .int .i64 d.keyAt, .int .i64 d.keyLength, .int .i64 d.interval, .int .i64 d.area, .int .i64 d.freeInterval, .int .i64 d.freeArea, .int .i64 d.base, .int .i64 d.altAt, .int .i64 d.altLength, .bool d.unique, .int .i64 d.cls, .string ⟨d.volume.toArray⟩, .string ⟨d.owner.toArray⟩, .int .i64 d.created, .int .i64 d.expires, .bool d.archived], .slice q (L.length + M.length) c] W fun e w' => ∃ v, e = .returned v ∧ Ext W w' ∧ RunBF d v w') := Lib.hid (fun W q c h => by
         have := RunA_any d q c (L ++ M) W h hk (by rw [List.length_append]; omega) (fun i => by
           by_cases hi : i < L.length
           · have e : (L ++ M).getD i ([], false) = L.getD i ([], false) := by simp [List.getD, List.getElem?_append_left hi]
             rw [e]; exact l2 i
           · have e : (L ++ M).getD i ([], false) = M.getD (i - L.length) ([], false) := by simp [List.getD, List.getElem?_append_right (Nat.le_of_not_lt hi)]
             rw [e]; exact m2 _)
         rw [List.length_append] at this
         refine this.mono ?_
         rintro e w' ⟨h1, b, q, c, p, m, mb, n, rfl, h2, h3, h4, _⟩
         exact ⟨_, rfl, h1, b, q, c, p, m, mb, rfl, h2, h3, h4⟩)
       have HD0 : Hid (0 ≤ d.area ∧ d.area ≤ 8 ∧ validB d = true) := Lib.hid (by obtain ⟨v1, _, _, _, _, _, _, v8, v9⟩ := keyed_spec hk; exact ⟨by omega, v9, v1⟩)
       have HVd := Lib.hid (fun W => Valid_ref d W)
       have Hnl : Hid (L.length ≤ 60 ∧ M.length ≤ 20) := Lib.hid ⟨by omega, by omega⟩
       clear hk hsl hsm hcl hml hcm hmm hq1 hq2 l1 l2 m1 m2
       go_enter Tryz.func4, Tryz.ntmps4
       go_upto_region 1 with (fail)
       refine wp_name (fun w0 => Ext w w0 ∧ DsAt w0 w.heap.size d) ⟨hx0, hb0⟩ ?_
       clear hx0 hb0
       rintro w0 ⟨he0, hd0⟩
       go_upto_region 3 with (go_at_call 5; refine (awakeA_any _).mono ?_; rintro e w1 ⟨rfl, he1⟩)
       have hd1 := hd0.ext he1
       go_upto_region 5 with (first
         | ((with_reducible (show wpList _ _ _ (⟨some 24, _, _, _, _, _⟩ :: _) _ _)); refine wpList_ds (o := ⟨some 24, _, _, _, _, _⟩) rfl (.tmp 3) rfl _ rfl d hd1 ?_)
         | (go_at_call 16; refine (HKe.out _).mono ?_; rintro e w2 ⟨rfl, he2⟩)
         | (go_at_call 17; (with_reducible refine (HSl.out _ (Hsl.out.ext ((he0.trans he1).trans he2))).mono ?_); rintro e w3 ⟨rfl, rfl⟩)
         | (go_at_call 17; (with_reducible refine (HSm.out _ (Hsm.out.ext ((he0.trans he1).trans he2))).mono ?_); rintro e w3 ⟨rfl, rfl⟩))
       have hx2 := (he0.trans he1).trans he2
       have hd2 := hd0.ext (he1.trans he2)
       clear he0 hd0 he1 hd1 he2 HKe HSl HSm
       go_upto_region 6 with (first
         | ((with_reducible (show wpList _ _ _ (⟨some 38, _, _, _, _, _⟩ :: _) _ _)); refine wpList_ds (o := ⟨some 38, _, _, _, _, _⟩) rfl (.tmp 3) rfl _ rfl d hd2 ?_)
         | (go_at_call 18; refine (HRa.out _ (Hsl.out.ext hx2)).mono ?_; rintro e w3 ⟨he3, a, q, c, p, m, mb, nn, rfl, hv, hI, hba, hnx, hM⟩)
         | (refine wpList_put rfl 29 (.tmp 7) (.tmp 41) rfl _ (arC a q c p m) rfl rfl _ _ (Blk.new w3 _) arSize rfl (ar_one ..) ?_; intro w4 ha4 hc4))
       have hE34 : Ext w3 w4 := hc4.ext (Ext.alloc _ _) (Nat.le_refl _)
       refine wp_name (fun w5 => Ext w w5 ∧ DsAt w5 w.heap.size d ∧ ArAt w5 w3.heap.size a q c p m ∧ ArV w5 a q c p m) ⟨(hx2.trans he3).trans hE34, ((hd2.ext he3).ext hE34), ha4, hv.ext hE34⟩ ?_
       have HI := Lib.hid hI
       have HBa := Lib.hid hba
       clear hE34 hc4 ha4 hv he3 hd2 hx2 HRa hM hnx hI hba
       clear w4
       generalize w3.heap.size = ab at *
       rintro w5 ⟨hx5, hd5, ha5, hv5⟩
       have HS := Lib.hid (And.intro hx5 (And.intro hd5 (And.intro ha5 hv5)))
       have lab := Blk.lt ha5
       clear hx5 hd5 ha5 hv5
       refine wp_region_pk 200 [(5, [(1, 46), (3, 48)]), (12, [(1, 46), (3, 48), (5, 50), (8, 52), (11, 10)])] (Ext.refl w5) (by kernel_rfl) (by kernel_rfl) (by kernel_rfl) (by kernel_rfl) (by kernel_rfl) (by kernel_rfl) (gok_st (d := d) (by kernel_rfl)) ?_
       simp only [List.take_succ_cons, List.take_zero, List.take_nil, List.drop_succ_cons, List.drop_zero, List.drop_nil, List.map_cons, List.map_nil]
       repeat (first
         | (refine wpPL_det (o := ⟨some 45, _, _, _, _, _⟩) (v := .agg #[.int .i64 d.id, .int .i64 d.org, .int .i64 d.format, .int .i64 d.length, .int .i64 d.block, .int .i64 d.keyAt, .int .i64 d.keyLength, .int .i64 d.interval, .int .i64 d.area, .int .i64 d.freeInterval, .int .i64 d.freeArea, .int .i64 d.base, .int .i64 d.altAt, .int .i64 d.altLength, .bool d.unique, .int .i64 d.cls, .string ⟨d.volume.toArray⟩, .string ⟨d.owner.toArray⟩, .int .i64 d.created, .int .i64 d.expires, .bool d.archived]) (by kernel_rfl) (by first | exact .inl rfl | exact .inr ⟨_, _, _, rfl, rfl, rfl⟩) ?_ ?_
            · intro a w' he hr K hK
              simp [Reads, Oper.looksAt, Op.operands, factAt, Is] at hr
              exact wp_load_row 23 (.tmp 3) rfl (w.heap.size) (by go_simp) _ _ _ _ (he.blk _ _ HS.out.2.1) dsDesc rfl dsSize (hK _ (Ext.refl _))
            simp only [setL, List.set_cons_succ, List.set_cons_zero])
         | (refine wpPL_step (o := ⟨some 46, _, _, _, _, _⟩) (NoneF 85 w5.heap.size) (NoneF.stable _ _) (.inl (by kernel_rfl)) (by kernel_rfl) (by first | exact .inl rfl | exact .inr ⟨_, _, _, rfl, rfl, rfl⟩) ?_ ?_
            · intro a w' he hr K hK
              go_simp
              exact hK _ _ (Ext.alloc _ _) ⟨_, rfl, Blk.new _ _, he.size⟩
            simp only [setL, List.set_cons_succ, List.set_cons_zero])
         | (refine wpPL_step (o := ⟨some 48, _, _, _, _, _⟩) (RowsF 85 w5.heap.size 2 L.length (opsC L)) (RowsF.stable _ _ _ _ _) (.inl (by kernel_rfl)) (by kernel_rfl) (by first | exact .inl rfl | exact .inr ⟨_, _, _, rfl, rfl, rfl⟩) ?_ ?_
            · intro a w' he hr K hK
              obtain ⟨b, hb1, hb2, hb3⟩ := hr 46 (by simp [Oper.looksAt, Op.operands, Call.operands])
              have hs := hr 47 (by simp [Oper.looksAt, Op.operands, Call.operands])
              refine wp_append0 (.tmp 46) (.tmp 47) 45 85 rfl w5.heap.size (.agg #[.string ByteArray.empty, .bool false]) 2 24 Tryz.underlying45 infoOpA rfl b hb1 hb2 hb3 _ L.length _ (opsC L) hs (opsC_len L) (aops_src ((Hsl.out.ext HS.out.1).ext he)) (by have := Hnl.out; omega) (by decide) he.size ?_
              intro v' w'' ho' he'
              obtain ⟨q', c', rfl⟩ := own_slice ho'
              exact hK _ _ he' ⟨q', c', rfl, ho'⟩
            simp only [setL, List.set_cons_succ, List.set_cons_zero])
         | (refine wpPL_pivot (o := ⟨some 50, _, _, _, _, _⟩) (RowsF 85 w5.heap.size 2 (L.length + M.length) (opsC (L ++ M))) (RowsF.stable _ _ _ _ _) (.inl (by kernel_rfl)) (by kernel_rfl) (by first | exact .inl rfl | exact .inr ⟨_, _, _, rfl, rfl, rfl⟩) ?_ ?_
            · intro a w' he hr K hK
              obtain ⟨q1, c1, h1, ho1⟩ := hr 48 (by simp [Oper.looksAt, Op.operands, Call.operands])
              have hs := hr 49 (by simp [Oper.looksAt, Op.operands, Call.operands])
              refine wp_appOp (.tmp 48) (.tmp 49) rfl w5.heap.size _ L.length _ h1 ho1 pm M.length _ (opsC M) hs (opsC_len M) (cells_aops ((Hsm.out.ext HS.out.1).ext he)) (opsC_one M) (by have := Hnl.out; omega) he.size ?_
              intro v' w'' ho' hg
              have hrt := rty_app hg ho1 he.size
              obtain ⟨q', c', rfl⟩ := own_slice ho'
              exact hK _ _ (by unfold RS; rw [if_neg (by decide)]; exact hrt) ⟨q', c', rfl, by rw [opsC_app]; exact ho'⟩ (fun x hx hxi y hy => by unfold GS; rw [if_neg (by omega)]; trivial)
            simp only [setL, List.set_cons_succ, List.set_cons_zero])
         | (refine wpPL_step (o := ⟨some 51, _, _, _, _, _⟩) (RunBF d) (RunBF.stable _) (.inr (RunBF.strongS _ _ _)) (by kernel_rfl) (by first | exact .inl rfl | exact .inr ⟨_, _, _, rfl, rfl, rfl⟩) ?_ ?_
            · intro a w' he hr K hK
              obtain ⟨q1, c1, h1, ho1⟩ := hr 50 (by simp [Oper.looksAt, Op.operands, Call.operands])
              simp [Reads, Oper.looksAt, Op.operands, Call.operands, factAt, Is] at hr
              simp at h1
              have hao := aops_cells (own_cellsK ho1).1
              go_simp
              refine (HRb.out _ q1 c1 hao).mono ?_
              rintro e w'' ⟨v, rfl, he', hf⟩
              exact hK _ _ he' hf
            simp only [setL, List.set_cons_succ, List.set_cons_zero])
         | (refine wpPL_move (o := ⟨some 44, _, _, _, _, _⟩) _ (RunBF d) (by kernel_rfl) (by first | exact .inl rfl | exact .inr ⟨_, _, _, rfl, rfl, rfl⟩) (by first | exact .inl rfl | exact .inr rfl) rfl (RunBF.stable _) (.inr (RunBF.strongS _ _ _)) ?_
            simp only [setL, List.set_cons_succ, List.set_cons_zero, List.getD_cons_succ, List.getD_cons_zero])
         | (refine wpPL_step (o := ⟨some 52, _, _, _, _, _⟩) (BF d) (BF.stable _) (by first | exact .inr (AppF.strong _ _ _ _ (by decide)) | exact .inr (WrF.strong _ _ _ _ (by decide)) | exact .inr (RowsF.strong _ _ _ _ _ _ _ _ (by decide)) | exact .inr (Fresh.strong _ _ _ _ _ _ _ (by decide)) | exact .inr (IfcF.strong (Fresh.strong _ _ _ _ _ _ _ (by decide)) _) | exact .inl (by kernel_rfl)) (by kernel_rfl) (by first | exact .inl rfl | exact .inr ⟨_, _, _, rfl, rfl, rfl⟩) ?_ ?_
            · intro a w' he hr K hK
              obtain ⟨b9, q9, c9, p9, m9, mb9, h1, h9⟩ := hr 44 (by simp [Oper.looksAt, Op.operands])
              simp at h1
              go_simp
              exact hK _ _ (Ext.refl _) ⟨b9, q9, c9, p9, m9, rfl, h9⟩
            simp only [setL, List.set_cons_succ, List.set_cons_zero])
         | (refine wpPL_step (o := ⟨some 53, _, _, _, _, _⟩) Any Any.stable (.inr Any.strong) (by kernel_rfl) (by first | exact .inl rfl | exact .inr ⟨_, _, _, rfl, rfl, rfl⟩) ?_ ?_
            · intro a w' he hr K hK
              obtain ⟨b9, q9, c9, p9, m9, mb9, h1, h9⟩ := hr 44 (by simp [Oper.looksAt, Op.operands])
              simp at h1
              go_simp
              exact hK _ _ (Ext.refl _) trivial
            simp only [setL, List.set_cons_succ, List.set_cons_zero])
         | (refine wpPL_move (o := ⟨some 11, _, _, _, _, _⟩) _ Any (by kernel_rfl) (by first | exact .inl rfl | exact .inr ⟨_, _, _, rfl, rfl, rfl⟩) (by first | exact .inl rfl | exact .inr rfl) rfl Any.stable (.inr Any.strong) ?_
            simp only [setL, List.set_cons_succ, List.set_cons_zero, List.getD_cons_succ, List.getD_cons_zero])
         | (refine wpPL_det (o := ⟨some 54, _, _, _, _, _⟩) (v := .bool true) (by kernel_rfl) (by first | exact .inl rfl | exact .inr ⟨_, _, _, rfl, rfl, rfl⟩) ?_ ?_
            · intro a w' he hr K hK
              obtain ⟨b9, q9, c9, p9, m9, mb9, h1, h9⟩ := hr 44 (by simp [Oper.looksAt, Op.operands])
              simp at h1
              go_simp
              exact hK _ (Ext.refl _)
            simp only [setL, List.set_cons_succ, List.set_cons_zero])
         | (refine wpPL_step (o := ⟨some 10, _, _, _, _, _⟩) (PtrA w5.heap.size) (PtrA.stable _) (.inr (PtrA.strong _ _ _)) (by kernel_rfl) (by first | exact .inl rfl | exact .inr ⟨_, _, _, rfl, rfl, rfl⟩) ?_ ?_
            · intro a w' he hr K hK
              go_simp
              exact hK _ _ (Ext.alloc _ _) ⟨_, arZ, rfl, Blk.new _ _, rfl, he.size⟩
            simp only [setL, List.set_cons_succ, List.set_cons_zero])
         | (refine wpPL_pivot (o := ⟨none, _, _, _, _, _⟩) Any Any.stable (.inr Any.strong) (by kernel_rfl) (by first | exact .inl rfl | exact .inr ⟨_, _, _, rfl, rfl, rfl⟩) ?_ ?_
            · intro a w' he hr K hK
              obtain ⟨bb, cs, h1, h2, h3, h4⟩ := hr 10 (by simp [Oper.looksAt, Op.operands])
              obtain ⟨b9, q9, c9, p9, m9, hv, h9, h10, h11⟩ := hr 52 (by simp [Oper.looksAt, Op.operands])
              refine wp_store_row 29 (.tmp 10) (.tmp 52) rfl bb (arC b9 q9 c9 p9 m9) h1 hv _ _ h2 arSize h3 (ar_one ..) ?_
              refine hK _ _ (by unfold RS; rw [if_pos rfl]; exact ⟨bb, cs, _, h4, h2, by rw [h3]; rfl, Chg.setRow, Blk.setRow h2⟩) trivial (fun x hx hxi y hy => ?_)
              unfold GS
              split
              · rename_i hc
                simp at hx
                rcases hx with rfl | rfl
                · simp at hxi
                · simp at hy
                  have e : y = (11, 10) := by rcases hy with rfl | rfl | rfl | rfl | rfl <;> simp at hc ⊢
                  subst e
                  exact ⟨bb, b9, q9, c9, p9, m9, h1, Blk.setRow h2, h9.chgA h2 (by decide) (by decide) (by decide) Chg.setRow, h10, h11, h4⟩
              · trivial
            simp only [setL, List.set_cons_succ, List.set_cons_zero])
         | (refine wpPL_move _ _ (by kernel_rfl) (by first | exact .inl rfl | exact .inr ⟨_, _, _, rfl, rfl, rfl⟩) (by first | exact .inl rfl | exact .inr rfl) rfl (by first | exact Is.stable _ | exact RowsF.stable _ _ _ _ _ | exact NoneF.stable _ _ | exact Fresh.stable _ _ _ | exact AppF.stable _ | exact WrF.stable _ | exact PtrF.stable _ _ | exact PlF.stable _ _) (by first | exact .inr (Is.strong _ _ _) | exact .inr (AppF.strong _ _ _ _ (by decide)) | exact .inr (WrF.strong _ _ _ _ (by decide)) | exact .inr (RowsF.strong _ _ _ _ _ _ _ _ (by decide)) | exact .inl (by kernel_rfl)) ?_
            simp only [setL, List.set_cons_succ, List.set_cons_zero, List.getD_cons_succ, List.getD_cons_zero])
         | (apply wpPL_det (by kernel_rfl) (by first | exact .inl rfl | exact .inr ⟨_, _, _, rfl, rfl, rfl⟩)
            · intro a w' he hr K hK
              simp [Reads, Oper.looksAt, Op.operands, Call.operands, factAt, Is] at hr
              have hx := he.cell
              go_simp
              try go_bits
              try (rw [if_neg (by omega)]; go_simp)
              first
                | exact hK _ (Ext.refl _)
            simp only [setL, List.set_cons_succ, List.set_cons_zero]))
       intro w2 he2
       simp only [killL, killIn, List.foldl_cons, List.foldl_nil, List.set_cons_succ, List.set_cons_zero]
       repeat (first | with_reducible refine rest_is _ _ _ _ ?_ | (with_reducible refine rest_fact _ _ _ _ ?_; intro _ _) | with_reducible refine rest_end _ _ ?_)
       simp only [List.reverse_cons, List.reverse_nil, List.nil_append, List.cons_append]
       rename_i x10 h10 x11 h11 x44 h44 x46 h46 x48 h48 x50 h50 x51 h51 x52 h52 x53 h53
       obtain ⟨bb, b, q5, c5, p5, m5, rfl, hbb, hvb, hIb, hbab, hbB⟩ := h10
       clear h11 h44 h46 h48 h50 h51 h52 h53 HRb Hsl Hsm Hnl
       go_upto_region 7 with (fail)
       refine wp_name (fun w7 => Ext w w7 ∧ DsAt w7 w.heap.size d ∧ ArAt w7 ab a q c p m ∧ ArV w7 a q c p m ∧ ArAt w7 bb b q5 c5 p5 m5 ∧ ArV w7 b q5 c5 p5 m5) ⟨HS.out.1.trans he2, HS.out.2.1.ext he2, HS.out.2.2.1.ext he2, HS.out.2.2.2.ext he2, hbb, hvb⟩ ?_
       have Sa := Lib.hid HI.out.spec
       have Sb := Lib.hid hIb.spec
       have hE1 := HBa.out
       have hRd1 := read_pages (M := []) Sa.out (by omega) (by have := HD0.out; omega)
       have hRd2 := read_writes (M := []) Sa.out Sb.out (by omega) (by omega) (by have := HD0.out; omega) (by have := HD0.out; omega)
       rw [hE1] at hRd1
       rw [hbab] at hRd2
       have hMs := mem_small Sa.out Sb.out
       have hPl := (pages_short Sa.out).1
       have hWl := (writes_short Sa.out Sb.out).1
       have hWf := writes_few (a := a) Sb.out
       clear hvb hbb hbB he2 HS HI hIb hbab HBa hE1 lab
       clear w2
       rintro w7 ⟨hx7, hd7, ha7, hva, hb7, hvb⟩
       have HSA := Lib.hid (fun W (e : Ext w7 W) q' c' p' m' (hv' : ArV W a q' c' p' m') => SameA_any a q' c' p' m' q c p m W hv' (hva.ext e) (Nat.le_trans (inv_small Sa.out).1 (by decide)) (Nat.le_trans (inv_small Sa.out).2.1 (by decide)) (inv_small Sa.out).2.2.2.2)
       have HSB := Lib.hid (fun W (e : Ext w7 W) q' c' p' m' (hv' : ArV W b q' c' p' m') => SameA_any b q' c' p' m' q5 c5 p5 m5 W hv' (hvb.ext e) (Nat.le_trans (inv_small Sb.out).1 (by decide)) (Nat.le_trans (inv_small Sb.out).2.1 (by decide)) (inv_small Sb.out).2.2.2.2)
       have HND : Hid (∀ W, Ext w7 W → Calls Tryz.prog 22 #[ndV b.nd q5 c5] W fun e W' => e = .returned (.bool true) ∧ Ext W W') := Lib.hid (fun W e => by
         have := IsNodeR_any q5 c5 b.nd W (hvb.ext e).ents (Nat.le_trans (inv_small Sb.out).1 (by decide))
         rw [Sb.out.node] at this
         exact this)
       unfold ndV at HND
       have HPG : Hid (∀ W, Ext w7 W → Calls Tryz.prog 19 #[.agg #[.int .i64 d.id, .int .i64 d.org, .int .i64 d.format, .int .i64 d.length, .int .i64 d.block, .int .i64 d.keyAt, .int .i64 d.keyLength, .int .i64 d.interval, .int .i64 d.area, .int .i64 d.freeInterval, .int .i64 d.freeArea, .int .i64 d.base, .int .i64 d.altAt, .int .i64 d.altLength, .bool d.unique, .int .i64 d.cls, .string ⟨d.volume.toArray⟩, .string ⟨d.owner.toArray⟩, .int .i64 d.created, .int .i64 d.expires, .bool d.archived], .agg (arC a q c p m)] W fun e W' => Ext W W' ∧ ∃ q' c', e = .returned (.tuple #[.slice q' (pagesD d a).length c', .int .i64 0]) ∧ Wrts W' q' (pagesD d a)) := Lib.hid (fun W e => (Pages_any d a q c p m W (hva.ext e).x (Nat.le_trans (inv_small Sa.out).1 (by decide)) (Nat.le_trans (inv_small Sa.out).2.1 (by decide)) (rowsS Sa.out)).mono (by
         rintro e W' ⟨h1, v, rfl, h2⟩
         obtain ⟨q', c', rfl⟩ := own_slice h2
         exact ⟨h1, q', c', by rw [(pages_zero Sa.out Sa.out).1], (own_wrtsT h2).1⟩))
       have HWR : Hid (∀ W, Ext w7 W → Calls Tryz.prog 20 #[.agg #[.int .i64 d.id, .int .i64 d.org, .int .i64 d.format, .int .i64 d.length, .int .i64 d.block, .int .i64 d.keyAt, .int .i64 d.keyLength, .int .i64 d.interval, .int .i64 d.area, .int .i64 d.freeInterval, .int .i64 d.freeArea, .int .i64 d.base, .int .i64 d.altAt, .int .i64 d.altLength, .bool d.unique, .int .i64 d.cls, .string ⟨d.volume.toArray⟩, .string ⟨d.owner.toArray⟩, .int .i64 d.created, .int .i64 d.expires, .bool d.archived], .agg (arC a q c p m), .agg (arC b q5 c5 p5 m5)] W fun e W' => Ext W W' ∧ ∃ q' c', e = .returned (.tuple #[.slice q' (writesD d a b).length c', .int .i64 0]) ∧ Wrts W' q' (writesD d a b)) := Lib.hid (fun W e => (Writes_any d a b q c p m q5 c5 p5 m5 W (hva.ext e).x (hvb.ext e).x (Nat.le_trans (inv_small Sa.out).1 (by decide)) (Nat.le_trans (inv_small Sa.out).2.1 (by decide)) (rowsS Sa.out) (Nat.le_trans (inv_small Sb.out).1 (by decide)) (Nat.le_trans (inv_small Sb.out).2.1 (by decide)) (rowsS Sb.out)).mono (by
         rintro e W' ⟨h1, q', c', rfl, h2⟩
         exact ⟨h1, q', c', by rw [(pages_zero Sa.out Sb.out).2], h2⟩))
       have HWN : Hid (∀ W, Ext w7 W → Calls Tryz.prog 20 #[.agg #[.int .i64 d.id, .int .i64 d.org, .int .i64 d.format, .int .i64 d.length, .int .i64 d.block, .int .i64 d.keyAt, .int .i64 d.keyLength, .int .i64 d.interval, .int .i64 d.area, .int .i64 d.freeInterval, .int .i64 d.freeArea, .int .i64 d.base, .int .i64 d.altAt, .int .i64 d.altLength, .bool d.unique, .int .i64 d.cls, .string ⟨d.volume.toArray⟩, .string ⟨d.owner.toArray⟩, .int .i64 d.created, .int .i64 d.expires, .bool d.archived], .agg (arC a q c p m), .agg (arC a q c p m)] W fun e W' => Ext W W' ∧ ∃ q' c', e = .returned (.tuple #[.slice q' 0 c', .int .i64 0])) := Lib.hid (fun W e => (Writes_any d a a q c p m q c p m W (hva.ext e).x (hva.ext e).x (Nat.le_trans (inv_small Sa.out).1 (by decide)) (Nat.le_trans (inv_small Sa.out).2.1 (by decide)) (rowsS Sa.out) (Nat.le_trans (inv_small Sa.out).1 (by decide)) (Nat.le_trans (inv_small Sa.out).2.1 (by decide)) (rowsS Sa.out)).mono (by
         rintro e W' ⟨h1, q', c', rfl, h2⟩
         exact ⟨h1, q', c', by rw [(pages_zero Sa.out Sa.out).2, writes_self]; rfl⟩))
       clear Sa Sb hva hvb
       generalize pagesD d a = PA at *
       generalize writesD d a b = WA at *
       have HP1 : Hid (∀ W q' c', Wrts W q' PA → Calls Tryz.prog 21 #[.slice none 0 0, .slice q' PA.length c'] W fun e W' => Ext W W' ∧ ∃ q' c', e = .returned (.slice q' (putsP [] PA).length c') ∧ Strs W' q' (putsP [] PA)) := Lib.hid (fun W q' c' h => (PutO_any none q' 0 0 PA.length c' [] PA W (.inl rfl) rfl h rfl (by decide) (by omega)).mono (by
         rintro e W' ⟨h1, v, rfl, h2⟩
         obtain ⟨q2, c2, rfl, h3, _⟩ := own_strs_p h2
         exact ⟨h1, q2, c2, rfl, h3⟩))
       have HRD1 : Hid (∀ W q' c', Strs W q' (putsP [] PA) → Calls Tryz.prog 8 #[.iface 37 (.slice q' (putsP [] PA).length c'), .agg #[.int .i64 d.id, .int .i64 d.org, .int .i64 d.format, .int .i64 d.length, .int .i64 d.block, .int .i64 d.keyAt, .int .i64 d.keyLength, .int .i64 d.interval, .int .i64 d.area, .int .i64 d.freeInterval, .int .i64 d.freeArea, .int .i64 d.base, .int .i64 d.altAt, .int .i64 d.altLength, .bool d.unique, .int .i64 d.cls, .string ⟨d.volume.toArray⟩, .string ⟨d.owner.toArray⟩, .int .i64 d.created, .int .i64 d.expires, .bool d.archived], .int .i64 1] W fun e W' => Ext W W' ∧ ∃ q c p m, e = .returned (.tuple #[.agg (arC a q c p m), .int .i64 0]) ∧ ArV W' a q c p m) := Lib.hid (fun W q' c' h => by
         have := ReadP_any q' c' (putsP [] PA).length (putsP [] PA) d 1 W h rfl hMs.2.1
         rw [hRd1] at this
         exact this)
       have HRD2 : Hid (∀ W q' c', Strs W q' (putsP (putsP [] PA) WA) → Calls Tryz.prog 8 #[.iface 37 (.slice q' (putsP (putsP [] PA) WA).length c'), .agg #[.int .i64 d.id, .int .i64 d.org, .int .i64 d.format, .int .i64 d.length, .int .i64 d.block, .int .i64 d.keyAt, .int .i64 d.keyLength, .int .i64 d.interval, .int .i64 d.area, .int .i64 d.freeInterval, .int .i64 d.freeArea, .int .i64 d.base, .int .i64 d.altAt, .int .i64 d.altLength, .bool d.unique, .int .i64 d.cls, .string ⟨d.volume.toArray⟩, .string ⟨d.owner.toArray⟩, .int .i64 d.created, .int .i64 d.expires, .bool d.archived], .int .i64 1] W fun e W' => ∃ v, e = .returned v ∧ Ext W W' ∧ RdF b v W') := Lib.hid (fun W q' c' h => by
         have := ReadP_any q' c' (putsP (putsP [] PA) WA).length (putsP (putsP [] PA) WA) d 1 W h rfl hMs.2.2
         rw [hRd2] at this
         exact this.mono (by
           rintro e W' ⟨h1, q, c, p, m, rfl, h2⟩
           exact ⟨_, rfl, h1, q, c, p, m, rfl, h2⟩))
       have hM1 := hMs.1
       clear hRd1 hRd2 hMs
       have HP2 : Hid (∀ W q1 c1 q' c', Strs W q1 (putsP [] PA) → Wrts W q' WA → Calls Tryz.prog 21 #[.slice q1 (putsP [] PA).length c1, .slice q' WA.length c'] W fun e W' => Ext W W' ∧ ∃ v, e = .returned v ∧ W'.ownsRow W.heap.size 9 1 v (putsP (putsP [] PA) WA).length ((putsP (putsP [] PA) WA).map fun s : List UInt8 => Value.string ⟨s.toArray⟩)) := Lib.hid (fun W q1 c1 q' c' h1 h => PutO_any q1 q' (putsP [] PA).length c1 WA.length c' (putsP [] PA) WA W h1 rfl h rfl (by omega) (by omega))
       generalize putsP (putsP [] PA) WA = M2 at *
       generalize putsP [] PA = M1 at *
       have hwr : IntKind.i64.wrap (d.area + 1) = d.area + 1 := IntWalk.i64_in _ (by have := HD0.out; omega)
       have hgt : decide (d.area + 1 < (WA.length : Int)) = false := decide_eq_false (by omega)
       clear hM1 hPl hWl hWf
       go_upto_region 11 with (first
         | ((with_reducible (show wpList _ _ _ (⟨some 56, _, _, _, _, _⟩ :: _) _ _)); refine wpList_ds (o := ⟨some 56, _, _, _, _, _⟩) rfl (.tmp 3) rfl _ rfl d hd7 ?_)
         | ((with_reducible (show wpList _ _ _ (⟨some 57, _, _, _, _, _⟩ :: _) _ _)); refine wpList_row (o := ⟨some 57, _, _, _, _, _⟩) rfl 29 (.tmp 7) rfl _ rfl _ _ _ ha7 arDesc rfl arSize ?_)
         | (go_at_call 19; refine (HPG.out _ (Ext.refl _)).mono ?_; rintro e w8 ⟨he8, q8, c8, rfl, hw8⟩; have hd8 := hd7.ext he8; have ha8 := ha7.ext he8; have hb8 := hb7.ext he8)
         | ((with_reducible (show wpList _ _ _ (⟨some 62, _, _, _, _, _⟩ :: _) _ _)); refine wpList_ds (o := ⟨some 62, _, _, _, _, _⟩) rfl (.tmp 3) rfl _ rfl d hd8 ?_)
         | ((with_reducible (show wpList _ _ _ (⟨some 63, _, _, _, _, _⟩ :: _) _ _)); refine wpList_row (o := ⟨some 63, _, _, _, _, _⟩) rfl 29 (.tmp 7) rfl _ rfl _ _ _ ha8 arDesc rfl arSize ?_)
         | ((with_reducible (show wpList _ _ _ (⟨some 64, _, _, _, _, _⟩ :: _) _ _)); refine wpList_row (o := ⟨some 64, _, _, _, _, _⟩) rfl 29 (.tmp 10) rfl _ rfl _ _ _ hb8 arDesc rfl arSize ?_)
         | (go_at_call 20; refine (HWR.out _ he8).mono ?_; rintro e w9 ⟨he9, q9, c9, rfl, hw9⟩; have k8 : w9.cell? ⟨w.heap.size, 8, none⟩ = some (.int .i64 d.area) := Blk.val (hd8.ext he9) 8 _ rfl; have kl := Blk.lt (hd8.ext he9)))
       have hx9 := he8.trans he9
       have hw8' := hw8.ext he9
       have hd9 := hd8.ext he9
       have ha9 := ha8.ext he9
       have hb9 := hb8.ext he9
       clear hw8 hd8 ha8 hb8 he8 he9 hd7 ha7 hb7 k8 kl hwr hgt HPG HWR
       go_upto_region 12 with (go_at_call 21; refine (HP1.out _ _ _ hw8').mono ?_; rintro e w10 ⟨he10, q10, c10, rfl, hs10⟩)
       have hd10 := hd9.ext he10
       go_upto_region 13 with (first
         | ((with_reducible (show wpList _ _ _ (⟨some 95, _, _, _, _, _⟩ :: _) _ _)); refine wpList_ds (o := ⟨some 95, _, _, _, _, _⟩) rfl (.tmp 3) rfl _ rfl d hd10 ?_)
         | (go_at_call 8; refine (HRD1.out _ _ _ hs10).mono ?_; rintro e w11 ⟨he11, q11, c11, p11, m11, rfl, hv11⟩)
         | (refine wpList_put rfl 29 (.tmp 18) (.tmp 97) rfl _ (arC a q11 c11 p11 m11) rfl rfl _ _ (Blk.new w11 _) arSize rfl (ar_one ..) ?_; intro w12 hb12 hc12))
       have hE12 : Ext w11 w12 := hc12.ext (Ext.alloc _ _) (Nat.le_refl _)
       have hE9 : Ext w9 w12 := (he10.trans he11).trans hE12
       refine wp_name (fun w13 => Ext w7 w13 ∧ DsAt w13 w.heap.size d ∧ ArAt w13 ab a q c p m ∧ ArAt w13 bb b q5 c5 p5 m5 ∧ ArAt w13 w11.heap.size a q11 c11 p11 m11 ∧ ArV w13 a q11 c11 p11 m11 ∧ Strs w13 q10 M1 ∧ Wrts w13 q9 WA) ⟨hx9.trans hE9, hd9.ext hE9, ha9.ext hE9, hb9.ext hE9, hb12, hv11.ext hE12, (hs10.ext he11).ext hE12, hw9.ext hE9⟩ ?_
       clear hE9 hE12 hc12 hb12 hv11 he11 he10 hs10 hd10 hw9 hw8' hx9 hd9 ha9 hb9 HP1 HRD1
       clear w12
       generalize w11.heap.size = xb at *
       rintro w13 ⟨hx13, hd13, ha13, hb13, hk13, hv13, hs13, hw13⟩
       have HS := Lib.hid (And.intro hx13 (And.intro hd13 (And.intro ha13 (And.intro hb13 (And.intro hk13 hv13)))))
       have HP3 : Hid (∀ W, Ext w13 W → Calls Tryz.prog 21 #[.slice q10 M1.length c10, .slice q9 WA.length c9] W fun e W' => ∃ v, e = .returned v ∧ Ext W W' ∧ RowsF 9 w13.heap.size 1 M2.length (M2.map fun s : List UInt8 => Value.string ⟨s.toArray⟩) v W') := Lib.hid (fun W e => (HP2.out W q10 c10 q9 c9 (hs13.ext e) (hw13.ext e)).mono (by
         rintro e' W' ⟨h1, v, rfl, h2⟩
         obtain ⟨q2, c2, rfl⟩ := own_slice h2
         exact ⟨_, rfl, h1, q2, c2, rfl, own_le h2 e.size⟩))
       clear HP2 hx13 hd13 ha13 hb13 hk13 hv13 hs13 hw13
       refine wp_region_pk 200 [(10, [(9, 19)])] (Ext.refl w13) (by kernel_rfl) (by kernel_rfl) (by kernel_rfl) (by kernel_rfl) (by kernel_rfl) (by kernel_rfl) (gok_one _ _ 10 9 19 (TChg w13.heap.size 29) (PtrAF w13.heap.size b) (fun _ _ h => h.below) (PtrAF.stable _ _) (by kernel_rfl)) ?_
       simp only [List.take_succ_cons, List.take_zero, List.take_nil, List.drop_succ_cons, List.drop_zero, List.drop_nil, List.map_cons, List.map_nil]
       repeat (first
         | (refine wpPL_step (o := ⟨some 102, _, _, _, _, _⟩) (RowsF 9 w13.heap.size 1 M2.length (M2.map fun s : List UInt8 => Value.string ⟨s.toArray⟩)) (RowsF.stable _ _ _ _ _) (by first | exact .inr (AppF.strong _ _ _ _ (by decide)) | exact .inr (WrF.strong _ _ _ _ (by decide)) | exact .inr (RowsF.strong _ _ _ _ _ _ _ _ (by decide)) | exact .inr (Fresh.strong _ _ _ _ _ _ _ (by decide)) | exact .inr (IfcF.strong (Fresh.strong _ _ _ _ _ _ _ (by decide)) _) | exact .inl (by kernel_rfl)) (by kernel_rfl) (by first | exact .inl rfl | exact .inr ⟨_, _, _, rfl, rfl, rfl⟩) ?_ ?_
            · intro a w' he hr K hK
              simp [Reads, Oper.looksAt, Op.operands, Call.operands, factAt, Is] at hr
              go_simp
              refine ((HP3.out w' he)).mono ?_
              rintro e w'' ⟨v, rfl, he', hf⟩
              exact hK _ _ he' hf
            simp only [setL, List.set_cons_succ, List.set_cons_zero])
         | (refine wpPL_step (o := ⟨some 103, _, _, _, _, _⟩) (IfcF (RowsF 9 w13.heap.size 1 M2.length (M2.map fun s : List UInt8 => Value.string ⟨s.toArray⟩)) 37) (IfcF.stable (RowsF.stable _ _ _ _ _) _) (.inr (IfcF.strong (RowsF.strong _ _ _ _ _ _ _ _ (by decide)) _)) (by kernel_rfl) (by first | exact .inl rfl | exact .inr ⟨_, _, _, rfl, rfl, rfl⟩) ?_ ?_
            · intro a w' he hr K hK
              obtain ⟨q1, c1, h1, h3⟩ := hr 102 (by simp [Oper.looksAt, Op.operands])
              simp at h1
              go_simp
              exact hK _ _ (Ext.refl _) ⟨_, rfl, q1, c1, rfl, h3⟩
            simp only [setL, List.set_cons_succ, List.set_cons_zero])
         | (refine wpPL_det (o := ⟨some 104, _, _, _, _, _⟩) (v := .agg #[.int .i64 d.id, .int .i64 d.org, .int .i64 d.format, .int .i64 d.length, .int .i64 d.block, .int .i64 d.keyAt, .int .i64 d.keyLength, .int .i64 d.interval, .int .i64 d.area, .int .i64 d.freeInterval, .int .i64 d.freeArea, .int .i64 d.base, .int .i64 d.altAt, .int .i64 d.altLength, .bool d.unique, .int .i64 d.cls, .string ⟨d.volume.toArray⟩, .string ⟨d.owner.toArray⟩, .int .i64 d.created, .int .i64 d.expires, .bool d.archived]) (by kernel_rfl) (by first | exact .inl rfl | exact .inr ⟨_, _, _, rfl, rfl, rfl⟩) ?_ ?_
            · intro a w' he hr K hK
              simp [Reads, Oper.looksAt, Op.operands, factAt, Is] at hr
              exact wp_load_row 23 (.tmp 3) rfl (w.heap.size) (by go_simp) _ _ _ _ (he.blk _ _ HS.out.2.1) dsDesc rfl dsSize (hK _ (Ext.refl _))
            simp only [setL, List.set_cons_succ, List.set_cons_zero])
         | (refine wpPL_step (o := ⟨some 105, _, _, _, _, _⟩) (RdF b) (RdF.stable _) (.inr (RdF.strong _ _ _)) (by kernel_rfl) (by first | exact .inl rfl | exact .inr ⟨_, _, _, rfl, rfl, rfl⟩) ?_ ?_
            · intro a w' he hr K hK
              obtain ⟨y, h1, q1, c1, h2, h3⟩ := hr 103 (by simp [Oper.looksAt, Op.operands, Call.operands])
              simp [Reads, Oper.looksAt, Op.operands, Call.operands, factAt, Is] at hr
              subst h2
              simp at h1
              go_simp
              refine (HRD2.out _ q1 c1 (own_strs3 h3)).mono ?_
              rintro e w'' ⟨v, rfl, he', hf⟩
              exact hK _ _ he' hf
            simp only [setL, List.set_cons_succ, List.set_cons_zero])
         | (refine wpPL_move (o := ⟨some 99, _, _, _, _, _⟩) _ (RdF b) (by kernel_rfl) (by first | exact .inl rfl | exact .inr ⟨_, _, _, rfl, rfl, rfl⟩) (by first | exact .inl rfl | exact .inr rfl) rfl (RdF.stable _) (.inr (RdF.strong _ _ _)) ?_
            simp only [setL, List.set_cons_succ, List.set_cons_zero, List.getD_cons_succ, List.getD_cons_zero])
         | (refine wpPL_step (o := ⟨some 106, _, _, _, _, _⟩) (ArF (b)) (ArF.stable _) (.inr (ArF.strong _ _ _)) (by kernel_rfl) (by first | exact .inl rfl | exact .inr ⟨_, _, _, rfl, rfl, rfl⟩) ?_ ?_
            · intro a w' he hr K hK
              obtain ⟨q9, c9, p9, m9, h1, h9⟩ := hr 99 (by simp [Oper.looksAt, Op.operands])
              simp at h1
              go_simp
              exact hK _ _ (Ext.refl _) ⟨q9, c9, p9, m9, rfl, h9⟩
            simp only [setL, List.set_cons_succ, List.set_cons_zero])
         | (refine wpPL_det (o := ⟨some 107, _, _, _, _, _⟩) (v := .int .i64 0) (by kernel_rfl) (by first | exact .inl rfl | exact .inr ⟨_, _, _, rfl, rfl, rfl⟩) ?_ ?_
            · intro a w' he hr K hK
              obtain ⟨q9, c9, p9, m9, h1, h9⟩ := hr 99 (by simp [Oper.looksAt, Op.operands])
              simp at h1
              go_simp
              exact hK _ (Ext.refl _)
            simp only [setL, List.set_cons_succ, List.set_cons_zero])
         | (refine wpPL_step (o := ⟨some 19, _, _, _, _, _⟩) (PtrF w13.heap.size (.cells arZ 29)) (PtrF.stable _ _) (by first | exact .inr (AppF.strong _ _ _ _ (by decide)) | exact .inr (WrF.strong _ _ _ _ (by decide)) | exact .inr (RowsF.strong _ _ _ _ _ _ _ _ (by decide)) | exact .inr (Fresh.strong _ _ _ _ _ _ _ (by decide)) | exact .inr (IfcF.strong (Fresh.strong _ _ _ _ _ _ _ (by decide)) _) | exact .inl (by kernel_rfl)) (by kernel_rfl) (by first | exact .inl rfl | exact .inr ⟨_, _, _, rfl, rfl, rfl⟩) ?_ ?_
            · intro a w' he hr K hK
              go_simp
              exact hK _ _ (Ext.alloc _ _) ⟨_, rfl, Blk.new _ _, he.size⟩
            simp only [setL, List.set_cons_succ, List.set_cons_zero])
         | (refine wpPL_pivot (o := ⟨none, _, _, _, _, _⟩) Any Any.stable (.inr Any.strong) (by kernel_rfl) (by first | exact .inl rfl | exact .inr ⟨_, _, _, rfl, rfl, rfl⟩) ?_ ?_
            · intro a w' he hr K hK
              obtain ⟨b, h1, h2, h3⟩ := hr 19 (by simp [Oper.looksAt, Op.operands])
              obtain ⟨q9, c9, p9, m9, hv, h9⟩ := hr 106 (by simp [Oper.looksAt, Op.operands])
              refine wp_store_row 29 (.tmp 19) (.tmp 106) rfl b (arC _ q9 c9 p9 m9) h1 hv _ _ h2 arSize rfl (ar_one ..) ?_
              exact hK _ _ ⟨b, _, h3, h2, Chg.setRow⟩ trivial (fun x hx _ y hy => by simp at hx; subst hx; simp at hy; subst hy; exact ⟨b, h1, q9, c9, p9, m9, Blk.setRow h2, h9.chgA h2 (by decide) (by decide) (by decide) Chg.setRow, h3⟩)
            simp only [setL, List.set_cons_succ, List.set_cons_zero])
         | (refine wpPL_move _ _ (by kernel_rfl) (by first | exact .inl rfl | exact .inr ⟨_, _, _, rfl, rfl, rfl⟩) (by first | exact .inl rfl | exact .inr rfl) rfl (by first | exact Is.stable _ | exact RowsF.stable _ _ _ _ _ | exact NoneF.stable _ _ | exact Fresh.stable _ _ _ | exact AppF.stable _ | exact WrF.stable _ | exact PtrF.stable _ _ | exact PlF.stable _ _) (by first | exact .inr (Is.strong _ _ _) | exact .inr (AppF.strong _ _ _ _ (by decide)) | exact .inr (WrF.strong _ _ _ _ (by decide)) | exact .inr (RowsF.strong _ _ _ _ _ _ _ _ (by decide)) | exact .inl (by kernel_rfl)) ?_
            simp only [setL, List.set_cons_succ, List.set_cons_zero, List.getD_cons_succ, List.getD_cons_zero])
         | (apply wpPL_det (by kernel_rfl) (by first | exact .inl rfl | exact .inr ⟨_, _, _, rfl, rfl, rfl⟩)
            · intro a w' he hr K hK
              simp [Reads, Oper.looksAt, Op.operands, Call.operands, factAt, Is] at hr
              have hx := he.cell
              go_simp
              try go_bits
              try (rw [if_neg (by omega)]; go_simp)
              first
                | exact hK _ (Ext.refl _)
            simp only [setL, List.set_cons_succ, List.set_cons_zero]))
       intro w2 he2
       simp only [killL, killIn, List.foldl_cons, List.foldl_nil, List.set_cons_succ, List.set_cons_zero]
       repeat (first | with_reducible refine rest_is _ _ _ _ ?_ | (with_reducible refine rest_fact _ _ _ _ ?_; intro _ _) | with_reducible refine rest_end _ _ ?_)
       simp only [List.reverse_cons, List.reverse_nil, List.nil_append, List.cons_append]
       rename_i x19 h19 x99 h99 x102 h102 x103 h103 x105 h105 x106 h106
       obtain ⟨yb, rfl, q6, c6, p6, m6, hyb, hv6, hyB⟩ := h19
       clear h99 h102 h103 h105 h106 HP3 HRD2
       go_upto_region 14 with (fail)
       refine wp_name (fun w15 => Ext w7 w15 ∧ DsAt w15 w.heap.size d ∧ ArAt w15 ab a q c p m ∧ ArAt w15 bb b q5 c5 p5 m5 ∧ ArAt w15 xb a q11 c11 p11 m11 ∧ ArV w15 a q11 c11 p11 m11 ∧ ArAt w15 yb b q6 c6 p6 m6 ∧ ArV w15 b q6 c6 p6 m6) ⟨HS.out.1.trans he2, HS.out.2.1.ext he2, HS.out.2.2.1.ext he2, HS.out.2.2.2.1.ext he2, HS.out.2.2.2.2.1.ext he2, HS.out.2.2.2.2.2.ext he2, hyb, hv6⟩ ?_
       clear hyb hyB hv6 he2 HS
       clear w2
       rintro w15 ⟨hx15, hd15, ha15, hb15, hk15, hv15, hy15, hu15⟩
       go_wp2_with (first
         | ((with_reducible (show wpList _ _ _ (⟨some 109, _, _, _, _, _⟩ :: _) _ _)); refine wpList_ds (o := ⟨some 109, _, _, _, _, _⟩) rfl (.tmp 3) rfl _ rfl d hd15 ?_)
         | ((with_reducible (show wpList _ _ _ (⟨some 110, _, _, _, _, _⟩ :: _) _ _)); refine wpList_row (o := ⟨some 110, _, _, _, _, _⟩) rfl 29 (.tmp 7) rfl _ rfl _ _ _ ha15 arDesc rfl arSize ?_)
         | ((with_reducible (show wpList _ _ _ (⟨some 111, _, _, _, _, _⟩ :: _) _ _)); refine wpList_row (o := ⟨some 111, _, _, _, _, _⟩) rfl 29 (.tmp 7) rfl _ rfl _ _ _ ha15 arDesc rfl arSize ?_)
         | (go_at_call 20; refine (HWN.out _ hx15).mono ?_; rintro e w16 ⟨he16, q16, c16, rfl⟩; have hd16 := hd15.ext he16; have ha16 := ha15.ext he16; have hb16 := hb15.ext he16; have hk16 := hk15.ext he16; have hy16 := hy15.ext he16)
         | ((with_reducible (show wpList _ _ _ (⟨some 122, _, _, _, _, _⟩ :: _) _ _)); refine wpList_row (o := ⟨some 122, _, _, _, _, _⟩) rfl 29 (.tmp 18) rfl _ rfl _ _ _ hk16 arDesc rfl arSize ?_)
         | ((with_reducible (show wpList _ _ _ (⟨some 123, _, _, _, _, _⟩ :: _) _ _)); refine wpList_row (o := ⟨some 123, _, _, _, _, _⟩) rfl 29 (.tmp 7) rfl _ rfl _ _ _ ha16 arDesc rfl arSize ?_)
         | (go_at_call 15; (with_reducible refine (HSA.out _ (hx15.trans he16) _ _ _ _ (hv15.ext he16)).mono ?_); rintro e w17 ⟨rfl, he17⟩; have hd17 := hd16.ext he17; have hb17 := hb16.ext he17; have hy17 := hy16.ext he17)
         | ((with_reducible (show wpList _ _ _ (⟨some 127, _, _, _, _, _⟩ :: _) _ _)); refine wpList_row (o := ⟨some 127, _, _, _, _, _⟩) rfl 29 (.tmp 19) rfl _ rfl _ _ _ hy17 arDesc rfl arSize ?_)
         | ((with_reducible (show wpList _ _ _ (⟨some 128, _, _, _, _, _⟩ :: _) _ _)); refine wpList_row (o := ⟨some 128, _, _, _, _, _⟩) rfl 29 (.tmp 10) rfl _ rfl _ _ _ hb17 arDesc rfl arSize ?_)
         | (go_at_call 15; (with_reducible refine (HSB.out _ ((hx15.trans he16).trans he17) _ _ _ _ ((hu15.ext he16).ext he17)).mono ?_); rintro e w18 ⟨rfl, he18⟩; have hd18 := hd17.ext he18; have hb18 := hb17.ext he18)
         | ((with_reducible (show wpList _ _ _ (⟨some 142, _, _, _, _, _⟩ :: _) _ _)); refine wpList_part (o := ⟨some 142, _, _, _, _, _⟩) rfl 26 (.tmp 141) rfl bb 1 rfl _ (arC b q5 c5 p5 m5) #[.int .i64 b.nd.level, .int .i64 b.nd.next, .slice q5 b.nd.ents.length c5] _ hb18 (ar_part b q5 c5 p5 m5) ndDesc rfl ndSize ?_)
         | (go_at_call 22; refine (HND.out _ (((hx15.trans he16).trans he17).trans he18)).mono ?_; rintro e w19 ⟨rfl, he19⟩; have hd19 := hd18.ext he19)
         | ((with_reducible (show wpList _ _ _ (⟨some 146, _, _, _, _, _⟩ :: _) _ _)); refine wpList_ds (o := ⟨some 146, _, _, _, _, _⟩) rfl (.tmp 3) rfl _ rfl d hd19 ?_)
         | (go_at_call 23; refine (HVd.out _).mono ?_; rintro e w20 ⟨rfl, he20⟩))
       rw [HD0.out.2.2]
       go_ret
       exact ⟨rfl, (((((hx7.trans hx15).trans he16).trans he17).trans he18).trans he19).trans he20⟩
end Go.Proofs.YtifmbcjbccedfaaGreatDoor
