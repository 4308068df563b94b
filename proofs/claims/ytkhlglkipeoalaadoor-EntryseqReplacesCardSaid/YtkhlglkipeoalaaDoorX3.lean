/- The walks of the reference's small functions of chapter 18. -/
import Derived.Test.YtkhlglkipeoalaaDoorX1b
import Derived.Test.YtkhlglkipeoalaaDoorX2b
import Derived.Test.YtkhlglkipeoalaaDoorW12
import Derived.Test.YtkhlglkipeoalaaDoorB2
import Derived.Deep.DeepCutAuto
set_option linter.unusedSimpArgs false
set_option linter.unusedVariables false
namespace Go.Proofs.YtkhlglkipeoalaaDoor
open Go.RowKit Dsd

theorem ret_page {a b : List UInt8} {c e : Int} (h1 : a = b) (h2 : c = e) : Ending.returned (.tuple #[.string ⟨a.toArray⟩, .int .i64 c]) = .returned (.tuple #[.string ⟨b.toArray⟩, .int .i64 e]) := by rw [h1, h2]
theorem Page_any (p : Option Addr) (cap n : Nat) (m : List (List UInt8)) (k : Int) (w : World) (hs : Strs w p m) (hn : m.length = n) (hm : n ≤ 1000000) :
    Calls Tryd.prog 65 #[.slice p n cap, .int .i64 k] w fun e w' => e = .returned (.tuple #[.string ⟨(pageOf m k).1.toArray⟩, .int .i64 (pageOf m k).2]) ∧ w = w' := by
  subst hn
  by_cases h : 0 ≤ k ∧ k < m.length
  · have hp : pageOf m k = (m.getD k.toNat [], 0) := by unfold pageOf; rw [if_pos h]
    obtain ⟨k, rfl⟩ := Int.eq_ofNat_of_zero_le h.1
    have hk : k < m.length := by omega
    obtain ⟨b, off, rfl, hb, hc⟩ := hs.at k hk
    have hck := hc k hk
    rw [Int.toNat_natCast] at hp
    have HP := Lib.hid hp
    generalize m.getD k [] = x at *
    have hkI : (k : Int) < m.length := by omega
    clear hc hp h
    go_enter Tryd.func65, Tryd.ntmps65
    go_wp2
    go_ret2
    exact ⟨ret_page (by rw [HP.out]) (by rw [HP.out]), rfl⟩
  · have hp : pageOf m k = ([], 2) := by unfold pageOf; rw [if_neg h]
    have HP := Lib.hid hp
    clear hp
    by_cases h0 : k < 0
    · go_enter Tryd.func65, Tryd.ntmps65
      go_wp2
      go_ret2
      exact ⟨ret_page (by rw [HP.out]) (by rw [HP.out]), rfl⟩
    · have h1 : (m.length : Int) ≤ k := by omega
      have h0' : 0 ≤ k := by omega
      clear h h0
      go_enter Tryd.func65, Tryd.ntmps65
      go_wp2
      go_ret2
      exact ⟨ret_page (by rw [HP.out]) (by rw [HP.out]), rfl⟩

theorem dsDesc : Tryd.prog.underlying 23 = some (.struct (Tryd.prog.fieldsOf 23)) := by kernel_rfl
theorem dsSize : (Tryd.prog.info? 23).map (·.size) = some 21 := by kernel_rfl
theorem hdDesc : Tryd.prog.underlying 28 = some (.struct (Tryd.prog.fieldsOf 28)) := by kernel_rfl
theorem hdSize : (Tryd.prog.info? 28).map (·.size) = some 7 := by kernel_rfl
/-- A description, a header in a block of its own. -/
def DsAt (w : World) (b : Nat) (d : DS) : Prop := Blk w b (.cells #[.int .i64 d.id, .int .i64 d.org, .int .i64 d.format, .int .i64 d.length, .int .i64 d.block, .int .i64 d.keyAt, .int .i64 d.keyLength, .int .i64 d.interval, .int .i64 d.area, .int .i64 d.freeInterval, .int .i64 d.freeArea, .int .i64 d.base, .int .i64 d.altAt, .int .i64 d.altLength, .bool d.unique, .int .i64 d.cls, .string ⟨d.volume.toArray⟩, .string ⟨d.owner.toArray⟩, .int .i64 d.created, .int .i64 d.expires, .bool d.archived] 23)
def HdAt (w : World) (b : Nat) (h : Hd) : Prop := Blk w b (.cells #[.int .i64 h.applied, .int .i64 h.count, .int .i64 h.fin, .int .i64 h.root, .int .i64 h.height, .int .i64 h.splits, .int .i64 h.areas] 28)
theorem DsAt.ext {w w' : World} {b : Nat} {d : DS} (h : DsAt w b d) (e : Ext w w') : DsAt w' b d := e.blk _ _ h
theorem HdAt.ext {w w' : World} {b : Nat} {d : Hd} (h : HdAt w b d) (e : Ext w w') : HdAt w' b d := e.blk _ _ h
theorem DsAt.alloc {w : World} {b : Nat} {d : DS} (h : DsAt w b d) (o : Obj) : DsAt (w.alloc o) b d := h.ext (Ext.alloc _ _)
theorem HdAt.alloc {w : World} {b : Nat} {d : Hd} (h : HdAt w b d) (o : Obj) : HdAt (w.alloc o) b d := h.ext (Ext.alloc _ _)
theorem wpList_ds {ops : Array Oper} {rest : List Oper} {o : Oper} {a : Act} {w : World} {Q : Exit → Act → World → Prop} (hw : Region.wanted o (yielded ops a.tmps) = true) (x : Operand) (ho : o.op = .load 23 x)
    (g : Nat) (hx : a.eval x = .pointer (some ⟨g, 0, none⟩)) (d : DS) (hb : DsAt w g d) (h : wpList Tryd.prog ops Q rest (a.put o.dst (.agg #[.int .i64 d.id, .int .i64 d.org, .int .i64 d.format, .int .i64 d.length, .int .i64 d.block, .int .i64 d.keyAt, .int .i64 d.keyLength, .int .i64 d.interval, .int .i64 d.area, .int .i64 d.freeInterval, .int .i64 d.freeArea, .int .i64 d.base, .int .i64 d.altAt, .int .i64 d.altLength, .bool d.unique, .int .i64 d.cls, .string ⟨d.volume.toArray⟩, .string ⟨d.owner.toArray⟩, .int .i64 d.created, .int .i64 d.expires, .bool d.archived])) w) : wpList Tryd.prog ops Q (o :: rest) a w :=
  wpList_row hw 23 x ho g hx _ _ _ hb dsDesc rfl dsSize h
theorem wpList_hd {ops : Array Oper} {rest : List Oper} {o : Oper} {a : Act} {w : World} {Q : Exit → Act → World → Prop} (hw : Region.wanted o (yielded ops a.tmps) = true) (x : Operand) (ho : o.op = .load 28 x)
    (g : Nat) (hx : a.eval x = .pointer (some ⟨g, 0, none⟩)) (d : Hd) (hb : HdAt w g d) (h : wpList Tryd.prog ops Q rest (a.put o.dst (.agg #[.int .i64 d.applied, .int .i64 d.count, .int .i64 d.fin, .int .i64 d.root, .int .i64 d.height, .int .i64 d.splits, .int .i64 d.areas])) w) : wpList Tryd.prog ops Q (o :: rest) a w :=
  wpList_row hw 28 x ho g hx _ _ _ hb hdDesc rfl hdSize h

/-- What stands behind the boxes of a header and a description. -/
theorem hd_ds (w : World) (h : Hd) (d : DS) : Ext w ((w.alloc (.cells #[.int .i64 h.applied, .int .i64 h.count, .int .i64 h.fin, .int .i64 h.root, .int .i64 h.height, .int .i64 h.splits, .int .i64 h.areas] 28)).alloc (.cells #[.int .i64 d.id, .int .i64 d.org, .int .i64 d.format, .int .i64 d.length, .int .i64 d.block, .int .i64 d.keyAt, .int .i64 d.keyLength, .int .i64 d.interval, .int .i64 d.area, .int .i64 d.freeInterval, .int .i64 d.freeArea, .int .i64 d.base, .int .i64 d.altAt, .int .i64 d.altLength, .bool d.unique, .int .i64 d.cls, .string ⟨d.volume.toArray⟩, .string ⟨d.owner.toArray⟩, .int .i64 d.created, .int .i64 d.expires, .bool d.archived] 23)) ∧
    HdAt ((w.alloc (.cells #[.int .i64 h.applied, .int .i64 h.count, .int .i64 h.fin, .int .i64 h.root, .int .i64 h.height, .int .i64 h.splits, .int .i64 h.areas] 28)).alloc (.cells #[.int .i64 d.id, .int .i64 d.org, .int .i64 d.format, .int .i64 d.length, .int .i64 d.block, .int .i64 d.keyAt, .int .i64 d.keyLength, .int .i64 d.interval, .int .i64 d.area, .int .i64 d.freeInterval, .int .i64 d.freeArea, .int .i64 d.base, .int .i64 d.altAt, .int .i64 d.altLength, .bool d.unique, .int .i64 d.cls, .string ⟨d.volume.toArray⟩, .string ⟨d.owner.toArray⟩, .int .i64 d.created, .int .i64 d.expires, .bool d.archived] 23)) w.heap.size h ∧ DsAt ((w.alloc (.cells #[.int .i64 h.applied, .int .i64 h.count, .int .i64 h.fin, .int .i64 h.root, .int .i64 h.height, .int .i64 h.splits, .int .i64 h.areas] 28)).alloc (.cells #[.int .i64 d.id, .int .i64 d.org, .int .i64 d.format, .int .i64 d.length, .int .i64 d.block, .int .i64 d.keyAt, .int .i64 d.keyLength, .int .i64 d.interval, .int .i64 d.area, .int .i64 d.freeInterval, .int .i64 d.freeArea, .int .i64 d.base, .int .i64 d.altAt, .int .i64 d.altLength, .bool d.unique, .int .i64 d.cls, .string ⟨d.volume.toArray⟩, .string ⟨d.owner.toArray⟩, .int .i64 d.created, .int .i64 d.expires, .bool d.archived] 23)) (w.heap.size + 1) d :=
  ⟨(Ext.alloc _ _).trans (Ext.alloc _ _), Blk.alloc (Blk.new w _) _, Blk.new1 _ _ _ (by simp)⟩

set_option maxRecDepth 100000 in
theorem Door_any (h : Hd) (d : DS) (org : Int) (w : World) :
    Calls Tryd.prog 40 #[.agg #[.int .i64 h.applied, .int .i64 h.count, .int .i64 h.fin, .int .i64 h.root, .int .i64 h.height, .int .i64 h.splits, .int .i64 h.areas], .agg #[.int .i64 d.id, .int .i64 d.org, .int .i64 d.format, .int .i64 d.length, .int .i64 d.block, .int .i64 d.keyAt, .int .i64 d.keyLength, .int .i64 d.interval, .int .i64 d.area, .int .i64 d.freeInterval, .int .i64 d.freeArea, .int .i64 d.base, .int .i64 d.altAt, .int .i64 d.altLength, .bool d.unique, .int .i64 d.cls, .string ⟨d.volume.toArray⟩, .string ⟨d.owner.toArray⟩, .int .i64 d.created, .int .i64 d.expires, .bool d.archived], .int .i64 org] w fun e w' => e = .returned (.int .i64 (doorOf h d org)) ∧ Ext w w' := by
  have Hv := Lib.hid (Valid_ref d)
  have Hp := Lib.hid (Plain_any h)
  cases hv : validB d
  · have HE : Hid (doorOf h d org = 1) := Lib.hid (by unfold doorOf; rw [hv]; rfl)
    have HV := Lib.hid hv
    clear hv
    go_enter Tryd.func40, Tryd.ntmps40
    go_upto_region 1 with (fail)
    refine wp_name (fun w0 => Ext w w0 ∧ HdAt w0 w.heap.size h ∧ DsAt w0 (w.heap.size + 1) d) (hd_ds w h d) ?_
    rintro w0 ⟨he0, hb1, hb2⟩
    go_wp2_with (first | (refine wpList_ds rfl (.tmp 4) rfl _ rfl d hb2 ?_) | (go_at_call 17; refine (Hv.out _).mono ?_; rw [HV.out]; rintro e w1 ⟨rfl, he1⟩))
    go_ret
    exact ⟨ret_int HE.out.symm, he0.trans he1⟩
  · cases hp : plainB h
    · have HE : Hid (doorOf h d org = 1) := Lib.hid (by unfold doorOf; rw [hv, hp]; rfl)
      have HV := Lib.hid hv
      have HP := Lib.hid hp
      clear hv hp
      go_enter Tryd.func40, Tryd.ntmps40
      go_upto_region 1 with (fail)
      refine wp_name (fun w0 => Ext w w0 ∧ HdAt w0 w.heap.size h ∧ DsAt w0 (w.heap.size + 1) d) (hd_ds w h d) ?_
      rintro w0 ⟨he0, hb1, hb2⟩
      go_wp2_with (first | (refine wpList_ds rfl (.tmp 4) rfl _ rfl d hb2 ?_) | (refine wpList_hd rfl (.tmp 3) rfl _ rfl h hb1 ?_) | (go_at_call 17; refine (Hv.out _).mono ?_; rw [HV.out]; rintro e w1 ⟨rfl, he1⟩; have hb1 := hb1.ext he1) | (go_at_call 64; refine (Hp.out _).mono ?_; rw [HP.out]; rintro e w2 ⟨rfl, he2⟩))
      go_ret
      exact ⟨ret_int HE.out.symm, (he0.trans he1).trans he2⟩
    · have HE : Hid (doorOf h d org = if d.org ≠ org then 7 else 0) := Lib.hid (by unfold doorOf; rw [hv, hp]; rfl)
      have HV := Lib.hid hv
      have HP := Lib.hid hp
      clear hv hp
      by_cases ho : d.org = org
      · have hoI : (d.org != org) = false := by simp [ho]
        have HO := Lib.hid ho
        clear ho
        go_enter Tryd.func40, Tryd.ntmps40
        go_upto_region 1 with (fail)
        refine wp_name (fun w0 => Ext w w0 ∧ HdAt w0 w.heap.size h ∧ DsAt w0 (w.heap.size + 1) d) (hd_ds w h d) ?_
        rintro w0 ⟨he0, hb1, hb2⟩
        go_wp2_with (first | (refine wpList_ds rfl (.tmp 4) rfl _ rfl d hb2 ?_) | (refine wpList_hd rfl (.tmp 3) rfl _ rfl h hb1 ?_) | (go_at_call 17; refine (Hv.out _).mono ?_; rw [HV.out]; rintro e w1 ⟨rfl, he1⟩; have hb1 := hb1.ext he1) | (go_at_call 64; refine (Hp.out _).mono ?_; rw [HP.out]; rintro e w2 ⟨rfl, he2⟩; have c2 := Blk.val (hb2.ext (he1.trans he2)) 1 _ rfl))
        go_ret
        exact ⟨ret_int (by rw [HE.out, if_neg (by simp [HO.out])]), (he0.trans he1).trans he2⟩
      · have hoI : (d.org != org) = true := by simpa using ho
        have HO := Lib.hid ho
        clear ho
        go_enter Tryd.func40, Tryd.ntmps40
        go_upto_region 1 with (fail)
        refine wp_name (fun w0 => Ext w w0 ∧ HdAt w0 w.heap.size h ∧ DsAt w0 (w.heap.size + 1) d) (hd_ds w h d) ?_
        rintro w0 ⟨he0, hb1, hb2⟩
        go_wp2_with (first | (refine wpList_ds rfl (.tmp 4) rfl _ rfl d hb2 ?_) | (refine wpList_hd rfl (.tmp 3) rfl _ rfl h hb1 ?_) | (go_at_call 17; refine (Hv.out _).mono ?_; rw [HV.out]; rintro e w1 ⟨rfl, he1⟩; have hb1 := hb1.ext he1) | (go_at_call 64; refine (Hp.out _).mono ?_; rw [HP.out]; rintro e w2 ⟨rfl, he2⟩; have c2 := Blk.val (hb2.ext (he1.trans he2)) 1 _ rfl))
        go_ret
        exact ⟨ret_int (by rw [HE.out, if_pos HO.out]), (he0.trans he1).trans he2⟩

/-- What Load hands back: the records of a page in a row of their own, or the error. -/
def LoadOut (m : List (List UInt8)) (size page : Int) (w : World) (e : Ending) (w' : World) : Prop :=
  Ext w w' ∧ (((loadOf m size page).2 ≠ 0 ∧ e = .returned (.tuple #[.slice none 0 0, .int .i64 (loadOf m size page).2])) ∨
    ((loadOf m size page).2 = 0 ∧ ∃ q cq, e = .returned (.tuple #[.slice q (loadOf m size page).1.length cq, .int .i64 0]) ∧ Small (loadOf m size page).1 ∧
      w'.ownsRow w.heap.size 9 1 (.slice q (loadOf m size page).1.length cq) (loadOf m size page).1.length ((loadOf m size page).1.map fun s => .string ⟨s.toArray⟩)))
theorem loadOut_no {m : List (List UInt8)} {size page : Int} {w w' : World} {c : Int} (h : Ext w w') (hc : (loadOf m size page).2 = c) (h0 : c ≠ 0) : LoadOut m size page w (.returned (.tuple #[.slice none 0 0, .int .i64 c])) w' :=
  ⟨h, .inl ⟨by rw [hc]; exact h0, by rw [hc]⟩⟩
theorem loadOut_yes {m L : List (List UInt8)} {size page : Int} {w w' : World} {q : Option Addr} {cq : Nat} (h : Ext w w') (hr : loadOf m size page = (L, 0)) (hs : Small L)
    (ho : w'.ownsRow w.heap.size 9 1 (.slice q L.length cq) L.length (L.map fun s => .string ⟨s.toArray⟩)) : LoadOut m size page w (.returned (.tuple #[.slice q L.length cq, .int .i64 0])) w' := by
  refine ⟨h, .inr ?_⟩
  rw [hr]
  exact ⟨rfl, q, cq, rfl, hs, ho⟩
theorem pageOf_small {m : List (List UInt8)} (h : Small m) (k : Int) : (pageOf m k).1.length ≤ 1000000 := by
  unfold pageOf
  split
  · exact h.at _
  · simp

set_option maxRecDepth 100000 in
theorem Load_ref (p : Option Addr) (cap n : Nat) (m : List (List UInt8)) (d : DS) (page : Int) (w : World) (hs : Strs w p m) (hn : m.length = n) (hm : Small m) :
    Calls Tryd.prog 41 #[.slice p n cap, .agg #[.int .i64 d.id, .int .i64 d.org, .int .i64 d.format, .int .i64 d.length, .int .i64 d.block, .int .i64 d.keyAt, .int .i64 d.keyLength, .int .i64 d.interval, .int .i64 d.area, .int .i64 d.freeInterval, .int .i64 d.freeArea, .int .i64 d.base, .int .i64 d.altAt, .int .i64 d.altLength, .bool d.unique, .int .i64 d.cls, .string ⟨d.volume.toArray⟩, .string ⟨d.owner.toArray⟩, .int .i64 d.created, .int .i64 d.expires, .bool d.archived], .int .i64 page] w (LoadOut m d.interval page w) := by
  have Hpg := Lib.hid (fun w h => Page_any p cap n m page w h hn (by have := hm.1; omega))
  have hsm := pageOf_small hm page
  have hde := Decode_ref d.interval (pageOf m page).1 hsm
  have Hs := Lib.hid hs
  by_cases h1 : (pageOf m page).2 = 0
  · have H1 := Lib.hid h1
    have hl1 := fun h => @loadOf_none m d.interval page h1 h
    have hl2 := fun h => @loadOf_nil m d.interval page h1 h
    have hl3 := fun L h k => @loadOf_some m d.interval page L h1 h k
    have Hl1 := Lib.hid hl1
    have Hl2 := Lib.hid hl2
    have Hl3 := Lib.hid hl3
    clear hs hl1 hl2 hl3 h1
    generalize (pageOf m page).1 = s at *
    generalize (pageOf m page).2 = ep at *
    have h1 := H1.out
    subst h1
    have Hde := Lib.hid hde
    clear hde
    go_enter Tryd.func41, Tryd.ntmps41
    go_upto_region 1 with (fail)
    refine wp_name (fun w0 => Ext w w0 ∧ DsAt w0 w.heap.size d) ⟨Ext.alloc _ _, Blk.new w _⟩ ?_
    rintro w0 ⟨he0, hb2⟩
    have c7 := Blk.val hb2 7 _ rfl
    go_wp2_with (first | (go_at_call 65; refine (Hpg.out _ (Hs.out.ext he0)).mono ?_; rintro e w1 ⟨rfl, rfl⟩))
    refine (Hde.out _).mono ?_
    rintro e w2 ⟨he2, ⟨q, cq, L, rfl, hsl, hsmL, hel, hc1, hc2, hown⟩ | ⟨rfl, hno⟩⟩
    · by_cases hL : L = []
      · subst hL
        have HR := Lib.hid (Hl2.out hel)
        clear hsl hel hown
        go_wp2
        go_ret2
        exact loadOut_no (he0.trans he2) (by rw [HR.out]) (by decide)
      · have hLp : 0 < L.length := List.length_pos_iff.2 hL
        have hLI : ((L.length : Int) == 0) = false := by simp; omega
        have HR := Lib.hid (Hl3.out L hel hL)
        have Hown := Lib.hid (own_le hown he0.size)
        clear hsl hel hown hL
        go_wp2
        go_ret2
        exact loadOut_yes (he0.trans he2) HR.out hsmL Hown.out
    · have HR := Lib.hid (Hl1.out hno)
      have hne : decErr d.interval s ≠ 0 := by unfold decErr; split <;> (try split) <;> (try split) <;> decide
      have hneI : (decErr d.interval s != 0) = true := by simpa using hne
      generalize decErr d.interval s = c at *
      clear hno hne
      go_wp2
      go_ret2
      exact loadOut_no (he0.trans he2) (by rw [HR.out]) (by decide)
  · have HR := Lib.hid (@loadOf_page m d.interval page h1)
    have h1I : ((pageOf m page).2 != 0) = true := by simpa using h1
    clear hs hde hsm
    generalize (pageOf m page).1 = s at *
    generalize (pageOf m page).2 = ep at *
    have H1 := Lib.hid h1
    clear h1
    go_enter Tryd.func41, Tryd.ntmps41
    go_upto_region 1 with (fail)
    refine wp_name (fun w0 => Ext w w0) (Ext.alloc _ _) ?_
    rintro w0 he0
    go_wp2_with (first | (go_at_call 65; refine (Hpg.out _ (Hs.out.ext he0)).mono ?_; rintro e w1 ⟨rfl, rfl⟩))
    go_ret2
    exact loadOut_no he0 (by rw [HR.out]) H1.out
end Go.Proofs.YtkhlglkipeoalaaDoor
