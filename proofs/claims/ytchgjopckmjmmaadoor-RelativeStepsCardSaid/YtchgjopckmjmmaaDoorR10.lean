/- The walks of the reference's place, Load, write, set (chapter 19). -/
import Derived.Test.YtchgjopckmjmmaaDoorR4
import Derived.Test.YtchgjopckmjmmaaDoorApp0
import Derived.Test.YtchgjopckmjmmaaDoorRG
set_option linter.unusedSimpArgs false
set_option linter.unusedVariables false
namespace Go.Proofs.YtchgjopckmjmmaaDoor
open Go.RowKit Dsd

set_option maxRecDepth 100000 in
theorem place_ref (d : DS) (hv : validB d = true) (slot : Int) (h1 : 1 ≤ slot) (h2 : slot ≤ 65536) (w : World) :
    Calls Tryd.prog 54 #[.agg #[.int .i64 d.id, .int .i64 d.org, .int .i64 d.format, .int .i64 d.length, .int .i64 d.block, .int .i64 d.keyAt, .int .i64 d.keyLength, .int .i64 d.interval, .int .i64 d.area, .int .i64 d.freeInterval, .int .i64 d.freeArea, .int .i64 d.base, .int .i64 d.altAt, .int .i64 d.altLength, .bool d.unique, .int .i64 d.cls, .string ⟨d.volume.toArray⟩, .string ⟨d.owner.toArray⟩, .int .i64 d.created, .int .i64 d.expires, .bool d.archived], .int .i64 slot] w fun e w' => e = .returned (.tuple #[.int .i64 (pageS d slot), .int .i64 ((idxS d slot : Nat) : Int)]) ∧ Ext w w' := by
  obtain ⟨a1, a2, a3, a4, a5, a6⟩ := place_go hv h1 h2
  have hn := (slN_pos hv).1
  have hn0 : ¬ slN d = 0 := by omega
  have i1 : IntKind.i64.wrap (slot - 1) = slot - 1 := IntWalk.i64_in _ (by omega)
  have i2 : IntKind.i64.wrap (pageS d slot - 1) = pageS d slot - 1 := IntWalk.i64_in _ (by omega)
  have i3 : IntKind.i64.wrap (1 + (pageS d slot - 1)) = pageS d slot := by rw [IntWalk.i64_in _ (by omega)]; omega
  have i4 : IntKind.i64.wrap ((idxS d slot : Nat) : Int) = idxS d slot := IntWalk.i64_in _ (by omega)
  have Hsc := Lib.hid (fun w => (SlotCount_ref d.interval d.length w))
  have hsl : slotsN d.interval d.length = slN d := rfl
  rw [hsl] at Hsc
  clear hsl
  generalize slN d = N at *
  generalize pageS d slot = pg at *
  generalize idxS d slot = ix at *
  go_enter Tryd.func54, Tryd.ntmps54
  go_upto_region 1 with (fail)
  refine wp_name (fun w0 => Ext w w0 ∧ DsAt w0 w.heap.size d) ⟨Ext.alloc _ _, Blk.new w _⟩ ?_
  rintro w0 ⟨he0, hb⟩
  have c7 : w0.cell? ⟨w.heap.size, 7, none⟩ = some (.int .i64 d.interval) := Blk.val hb 7 _ rfl
  have c3 : w0.cell? ⟨w.heap.size, 3, none⟩ = some (.int .i64 d.length) := Blk.val hb 3 _ rfl
  go_upto_region 2 with (go_at_call 14; refine (Hsc.out _).mono ?_; rintro e w1 ⟨rfl, rfl⟩)
  clear c7 c3 hb
  go_quiet (fail)
  go_wp2
  go_ret2
  exact ⟨rfl, he0.trans (Ext.drewN _ _)⟩

set_option maxRecDepth 100000 in
theorem rload_ref (p : Option Addr) (cap n : Nat) (m : List (List UInt8)) (d : DS) (page : Int) (w : World) (hs : Strs w p m) (hn : m.length = n) (hm : Small m) :
    Calls Tryd.prog 55 #[.slice p n cap, .agg #[.int .i64 d.id, .int .i64 d.org, .int .i64 d.format, .int .i64 d.length, .int .i64 d.block, .int .i64 d.keyAt, .int .i64 d.keyLength, .int .i64 d.interval, .int .i64 d.area, .int .i64 d.freeInterval, .int .i64 d.freeArea, .int .i64 d.base, .int .i64 d.altAt, .int .i64 d.altLength, .bool d.unique, .int .i64 d.cls, .string ⟨d.volume.toArray⟩, .string ⟨d.owner.toArray⟩, .int .i64 d.created, .int .i64 d.expires, .bool d.archived], .int .i64 page] w (RLoadOut m d page w) := by
  have Hpg := Lib.hid (fun w h => Page_any p cap n m page w h hn (by have := hm.1; omega))
  have hsm := pageOf_small hm page
  have hde := DecodeSlots_ref d.interval d.length (pageOf m page).1 hsm
  have Hs := Lib.hid hs
  by_cases h1 : (pageOf m page).2 = 0
  · have H1 := Lib.hid h1
    have Hl2 := Lib.hid (fun h2 => @loadS_bad m d page h1 h2)
    have Hl3 := Lib.hid (fun h2 => @loadS_ok m d page h1 h2)
    clear hs h1
    generalize (pageOf m page).1 = s at *
    generalize (pageOf m page).2 = ep at *
    have h1 := H1.out
    subst h1
    have Hde := Lib.hid hde
    clear hde
    go_enter Tryd.func55, Tryd.ntmps55
    go_upto_region 1 with (fail)
    refine wp_name (fun w0 => Ext w w0 ∧ DsAt w0 w.heap.size d) ⟨Ext.alloc _ _, Blk.new w _⟩ ?_
    rintro w0 ⟨he0, hb2⟩
    have c7 : w0.cell? ⟨w.heap.size, 7, none⟩ = some (.int .i64 d.interval) := Blk.val hb2 7 _ rfl
    have c3 : w0.cell? ⟨w.heap.size, 3, none⟩ = some (.int .i64 d.length) := Blk.val hb2 3 _ rfl
    go_wp2_with (first | (go_at_call 84; refine (Hpg.out _ (Hs.out.ext he0)).mono ?_; rintro e w1 ⟨rfl, rfl⟩))
    refine (Hde.out _).mono ?_
    rintro e w2 ⟨he2, q, cq, k, rfl, hk, _, _, _, hown⟩
    by_cases hd : dsErr d.interval d.length s = 0
    · have HR := Lib.hid (Hl3.out hd)
      have hdI : (dsErr d.interval d.length s != 0) = false := by simp [hd]
      have Hown := Lib.hid (own_le hown he0.size)
      have Hk := Lib.hid hk
      generalize dsErr d.interval d.length s = c at *
      clear hown hd hk
      go_wp2
      go_ret2
      exact rload_yes (he0.trans he2) HR.out Hk.out Hown.out
    · have HR := Lib.hid (Hl2.out hd)
      have hdI : (dsErr d.interval d.length s != 0) = true := by simpa using hd
      generalize dsErr d.interval d.length s = c at *
      clear hown hd hk
      go_wp2
      go_ret2
      exact rload_no (he0.trans he2) (by rw [HR.out]) (by decide)
  · have HR := Lib.hid (@loadS_page m d page h1)
    have h1I : ((pageOf m page).2 != 0) = true := by simpa using h1
    clear hs hde hsm
    generalize (pageOf m page).1 = s at *
    generalize (pageOf m page).2 = ep at *
    have H1 := Lib.hid h1
    clear h1
    go_enter Tryd.func55, Tryd.ntmps55
    go_upto_region 1 with (fail)
    refine wp_name (fun w0 => Ext w w0) (Ext.alloc _ _) ?_
    rintro w0 he0
    go_wp2_with (first | (go_at_call 84; refine (Hpg.out _ (Hs.out.ext he0)).mono ?_; rintro e w1 ⟨rfl, rfl⟩))
    go_ret2
    exact rload_no he0 (by rw [HR.out]) H1.out

set_option maxRecDepth 100000 in
theorem write_ref (d : DS) (page : Int) (p : Option Addr) (cap m : Nat) (L : List Slt) (hm : L.length = m) (hml : m ≤ 1000000) (w : World) (hs : Slts w p L) :
    Calls Tryd.prog 56 #[.agg #[.int .i64 d.id, .int .i64 d.org, .int .i64 d.format, .int .i64 d.length, .int .i64 d.block, .int .i64 d.keyAt, .int .i64 d.keyLength, .int .i64 d.interval, .int .i64 d.area, .int .i64 d.freeInterval, .int .i64 d.freeArea, .int .i64 d.base, .int .i64 d.altAt, .int .i64 d.altLength, .bool d.unique, .int .i64 d.cls, .string ⟨d.volume.toArray⟩, .string ⟨d.owner.toArray⟩, .int .i64 d.created, .int .i64 d.expires, .bool d.archived], .int .i64 page, .slice p m cap] w fun e w' => e = .returned (.agg #[.int .i64 page, .string ⟨(esStr d.interval d.length L).toArray⟩]) ∧ Ext w w' := by
  have Hen := Lib.hid (fun w h => EncodeSlots_ref d.interval d.length p cap m L hm hml w h)
  have Hs := Lib.hid hs
  clear hs
  generalize esStr d.interval d.length L = es at *
  generalize esErr d.interval d.length L = ee at *
  go_enter Tryd.func56, Tryd.ntmps56
  go_upto_region 1 with (fail)
  refine wp_name (fun w0 => Ext w w0 ∧ DsAt w0 w.heap.size d ∧ Blk w0 (w.heap.size + 1) (.cells #[.int .i64 0, .string ⟨#[]⟩] 37)) ⟨(Ext.alloc _ _).trans (Ext.alloc _ _), Blk.alloc (Blk.new w _) _, Blk.new1 _ _ _ (by simp)⟩ ?_
  rintro w0 ⟨he0, hb2, hb3⟩
  have c7 : w0.cell? ⟨w.heap.size, 7, none⟩ = some (.int .i64 d.interval) := Blk.val hb2 7 _ rfl
  have c3 : w0.cell? ⟨w.heap.size, 3, none⟩ = some (.int .i64 d.length) := Blk.val hb2 3 _ rfl
  go_wp2_with (first | (go_at_call 86; refine (Hen.out _ (Hs.out.ext he0)).mono ?_; rintro e w1 ⟨rfl, he1⟩; have hb3 := he1.blk _ _ hb3) | (refine wpList_put rfl 37 (.tmp 6) (.tmp 20) rfl _ #[.int .i64 page, .string ⟨es.toArray⟩] rfl rfl _ _ hb3 wrSize rfl (wr_one _ _) ?_; intro w3 hb4 hc4))
  exact bodyPost_ret (results_row0 Tryd.results56 _ _ _ _ _ _ rfl hb4 writeDesc rfl wrSize) rfl ⟨rfl, hc4.ext (he0.trans he1) (by omega)⟩

/-- append of slots to an empty literal. -/
theorem wpList_append0 {w : World} {ops : Array Oper} {rest : List Oper} {o : Oper} {a : Act} {Q : Exit → Act → World → Prop} (hgd : Region.wanted o (yielded ops a.tmps) = true) (d s : Operand)
    (ho : o.op = .call { callee := .builtin .append, args := #[d, s], argTypes := #[99, 99] })
    (base : Nat) (b : Nat) (hv : a.eval d = .slice (some ⟨b, 0, none⟩) 0 0) (hb : Blk w b (.cells #[] 103)) (hbb : base ≤ b) (q : Option Addr) (m c : Nat) (L : List Slt) (hs : a.eval s = .slice q m c) (hl : L.length = m) (hc : Slts w q L) (hn : m ≤ 100000000) (hbase : base ≤ w.heap.size)
    (h : ∀ v' w', w'.ownsRow base 103 2 v' m (slotCells L) → Ext w w' → wpList Tryd.prog ops Q rest (a.put o.dst v') w') : wpList Tryd.prog ops Q (o :: rest) a w :=
  BigFrame.wpList_want hgd fun _ hK => wp_append0 d s 99 103 ho base _ 2 24 Tryd.underlying99 infoSlot rfl b hv hb hbb q m c (slotCells L) hs (by rw [length_slotCells]; omega) (fun hm => by
    obtain ⟨g, off, rfl, hg, hcc⟩ := hc.at 0 (by omega)
    refine ⟨_, rfl, fun j u hj => ?_⟩
    have hjl : j < 2 * L.length := by have := (List.getElem?_eq_some_iff.1 hj).1; rwa [length_slotCells] at this
    obtain ⟨a1, a2⟩ := slotCells_at L (j / 2) (by omega)
    obtain ⟨c1, c2⟩ := hcc (j / 2) (by omega)
    rw [addr_add]
    rcases Nat.mod_two_eq_zero_or_one j with hz | hz
    · have e : j / 2 * 2 = j := by omega
      rw [e] at a1 c1
      rw [hj] at a1
      rw [a1]; exact c1
    · have e : j / 2 * 2 + 1 = j := by omega
      rw [e] at a2
      rw [show off + j / 2 * 2 + 1 = off + j by omega] at c2
      rw [hj] at a2
      rw [a2]; exact c2) hn (by decide) hbase fun v' w' h2 h3 => hK _ _ (h v' w' h2 h3)
theorem slot_one (u : Bool) (s : List UInt8) : ∀ x ∈ [Value.bool u, .string ⟨s.toArray⟩], x.oneCell' = true := by intro x hx; simp at hx; rcases hx with rfl | rfl <;> rfl
theorem padS_snoc (L : List Slt) (j : Nat) : slotCells (L ++ List.replicate j (false, [])) ++ [.bool false, .string ⟨#[]⟩] = slotCells (L ++ List.replicate (j + 1) (false, [])) := by
  rw [List.replicate_succ', ← List.append_assoc, slotCells_snoc]
def slLen : Value → Nat
  | .slice _ n _ => n
  | _ => 0

set_option maxRecDepth 100000 in
set_option maxHeartbeats 1000000 in
theorem set_ref (p : Option Addr) (cap m : Nat) (L : List Slt) (ix : Nat) (u : Bool) (r : List UInt8) (hm : L.length = m) (hml : m ≤ 1000) (hix : ix ≤ 1000) (w : World) (hs : Slts w p L) :
    Calls Tryd.prog 57 #[.slice p m cap, .int .i64 (ix : Int), .agg #[.bool u, .string ⟨r.toArray⟩]] w fun e w' => Ext w w' ∧ ∃ v, e = .returned v ∧ w'.ownsRow w.heap.size 103 2 v (setS L ix (u, r)).length (slotCells (setS L ix (u, r))) := by
  have Hm := Lib.hid hm
  clear hm
  go_enter Tryd.func57, Tryd.ntmps57
  go_upto_region 1 with (fail)
  refine wp_name (fun w0 => Ext w w0 ∧ Blk w0 w.heap.size (.cells #[.bool u, .string ⟨r.toArray⟩] 103)) ⟨Ext.alloc _ _, Blk.new w _⟩ ?_
  rintro w0 ⟨he0, hb⟩
  have hz0 := he0.size
  have hzb := Blk.lt hb
  go_upto_region 2 with (first
    | (at_builtin; go_must (refine wpList_append0 rfl (.tmp 8) (.tmp 9) rfl (w.heap.size + 1) w0.heap.size rfl (Blk.new w0 _) (by omega) p m cap L rfl Hm.out ((hs.ext he0).ext (Ext.alloc _ _)) (by omega) (by simp; omega) ?_; intro v1 w1 hown1 he1)))
  have HS : Hid (Ext w w1 ∧ Blk w1 w.heap.size (.cells #[.bool u, .string ⟨r.toArray⟩] 103) ∧ w1.ownsRow (w.heap.size + 1) 103 2 v1 (m + 0) (slotCells (L ++ List.replicate 0 (false, []))) ∧ w.heap.size + 1 ≤ w1.heap.size) := Lib.hid ⟨(he0.trans (Ext.alloc _ _)).trans he1, ((Ext.alloc _ _).trans he1).blk _ _ hb, by simpa using hown1, by have := he1.size; simp at this; omega⟩
  clear hown1 he1 hb he0 hz0 hzb hs
  go_loopw [7] (fun v wr => ∃ j : Nat, (j = 0 ∨ m + j ≤ ix + 1) ∧ Ext w wr ∧ Blk wr w.heap.size (.cells #[.bool u, .string ⟨r.toArray⟩] 103) ∧ wr.ownsRow (w.heap.size + 1) 103 2 v (m + j) (slotCells (L ++ List.replicate j (false, []))) ∧ w.heap.size + 1 ≤ wr.heap.size) (fun v _ => ix + 1 - slLen v)
  case atStart => exact ⟨0, .inl rfl, HS.out⟩
  case round =>
    obtain ⟨j, hj, hex, hb, hown, hz⟩ := hrel
    obtain ⟨q, c, rfl⟩ := own_slice hown
    by_cases hle : m + j ≤ ix
    · have hleI : decide (((m + j : Nat) : Int) ≤ (ix : Int)) = true := decide_eq_true (by omega)
      go_wp2_with (first
        | (at_builtin; go_must (refine wpList_app rfl (.tmp 15) (.tmp 17) 99 103 rfl (w.heap.size + 1) (.agg #[.bool false, .string ByteArray.empty]) 2 24 Tryd.underlying99 infoSlot rfl (by decide) _ _ _ rfl (hown.alloc _) _ [_, _] rfl (Blk.new _ _) rfl (by intro x hx; simp at hx; rcases hx with rfl | rfl <;> rfl) (by omega) (by decide) (by simp; omega) ?_; intro v' w2 hown2 hgr; have hbel := Below.of_grown (B := w.heap.size + 1) hgr (hown.alloc _) (Nat.le_refl _) (by simp; omega); have hz2 := hgr.size; simp at hz2; clear hgr)))
      rw [padS_snoc] at hown2
      obtain ⟨q2, c2, rfl⟩ := own_slice hown2
      go_roundw
      case rel => exact ⟨j + 1, .inr (by omega), Ext.trans' (hex.trans (Ext.alloc _ _)) (Below.mono hbel (by omega)), Blk.below (Blk.alloc hb _) hbel (by omega), hown2, by omega⟩
      case measure => simp [slLen]; omega
    · have hleI : decide (((m + j : Nat) : Int) ≤ (ix : Int)) = false := decide_eq_false (by omega)
      have hlej : ¬ ((m + j : Nat) : Int) ≤ (ix : Int) := by omega
      have HP : Hid (L ++ List.replicate (ix + 1 - L.length) (false, []) = L ++ List.replicate j (false, [])) := Lib.hid (by rw [Hm.out]; congr 2; omega)
      have HSS : Hid (setS L ix (u, r) = (L ++ List.replicate j (false, [])).set ix (u, r)) := Lib.hid (by unfold setS; rw [HP.out])
      have hpl : (L ++ List.replicate j ((false, []) : Slt)).length = m + j := by simp [Hm.out]
      have HPL := Lib.hid hpl
      clear hpl
      generalize L ++ List.replicate j ((false, []) : Slt) = M at *
      obtain ⟨g, rfl, hg1, hg2, hf1, hf2, hc1, hc2, hset⟩ := own_setS hown ix (by omega)
      obtain ⟨hown9, hcx, cs, hbg⟩ := hset u r
      have hixI : (ix : Int) < ((m + j : Nat) : Int) := by omega
      have d0 : wr.cell? ⟨w.heap.size, 0, none⟩ = some (.bool u) := Blk.val hb 0 _ rfl
      have d1 : wr.cell? ⟨w.heap.size, 1, none⟩ = some (.string ⟨r.toArray⟩) := Blk.val hb 1 _ rfl
      have hzw : w.heap.size < wr.heap.size := Blk.lt hb
      have HE := Lib.hid (hcx.ext hex (by omega))
      have HO := Lib.hid (own_le hown9 (Nat.le_succ w.heap.size))
      have HSl : Hid ((setS L ix (u, r)).length = m + j) := Lib.hid (by rw [HSS.out, List.length_set]; exact HPL.out)
      clear hset hown9 hcx hbg hown hex hb hle
      go_wp2
      go_ret
      exact ⟨HE.out, _, rfl, by rw [HSl.out, HSS.out]; exact HO.out⟩
end Go.Proofs.YtchgjopckmjmmaaDoor
