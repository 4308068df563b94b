/- The walks of the program's small functions of chapter 18. -/
import Derived.Test.YtkhlglkipeoalaaDoorX3
import Derived.Deep.RegionWith
set_option linter.unusedSimpArgs false
set_option linter.unusedVariables false
namespace Go.Proofs.YtkhlglkipeoalaaDoor
open Go.RowKit Dsd

theorem clDesc : Tryd.prog.underlying 77 = some (.struct (Tryd.prog.fieldsOf 77)) := by kernel_rfl
theorem clSize : (Tryd.prog.info? 77).map (·.size) = some 29 := by kernel_rfl
/-- The cells of a cluster that is read: its pages, header and description. -/
def clCells (q : Value) (h : Hd) (d : DS) : Array Value := #[.iface 29 q, .int .i64 h.applied, .int .i64 h.count, .int .i64 h.fin, .int .i64 h.root, .int .i64 h.height, .int .i64 h.splits, .int .i64 h.areas, .int .i64 d.id, .int .i64 d.org, .int .i64 d.format, .int .i64 d.length, .int .i64 d.block, .int .i64 d.keyAt, .int .i64 d.keyLength, .int .i64 d.interval, .int .i64 d.area, .int .i64 d.freeInterval, .int .i64 d.freeArea, .int .i64 d.base, .int .i64 d.altAt, .int .i64 d.altLength, .bool d.unique, .int .i64 d.cls, .string ⟨d.volume.toArray⟩, .string ⟨d.owner.toArray⟩, .int .i64 d.created, .int .i64 d.expires, .bool d.archived]

theorem method_page (f : Nat) (p : Option Addr) (n cap : Nat) (w : World) : (method (f + 1) 29 (.slice p n cap) "Page").run Tryd.prog w = .ok (65, .slice p n cap) w := by kernel_rfl

set_option maxRecDepth 100000 in
theorem load_any (p : Option Addr) (cap n : Nat) (m : List (List UInt8)) (h : Hd) (d : DS) (page : Int) (w : World) (hs : Strs w p m) (hn : m.length = n) (hm : Small m) :
    Calls Tryd.prog 52 #[.agg #[.iface 29 (.slice p n cap), .int .i64 h.applied, .int .i64 h.count, .int .i64 h.fin, .int .i64 h.root, .int .i64 h.height, .int .i64 h.splits, .int .i64 h.areas, .int .i64 d.id, .int .i64 d.org, .int .i64 d.format, .int .i64 d.length, .int .i64 d.block, .int .i64 d.keyAt, .int .i64 d.keyLength, .int .i64 d.interval, .int .i64 d.area, .int .i64 d.freeInterval, .int .i64 d.freeArea, .int .i64 d.base, .int .i64 d.altAt, .int .i64 d.altLength, .bool d.unique, .int .i64 d.cls, .string ⟨d.volume.toArray⟩, .string ⟨d.owner.toArray⟩, .int .i64 d.created, .int .i64 d.expires, .bool d.archived], .int .i64 page] w (LoadOut m d.interval page w) := by
  have Hpg := Lib.hid (fun w h => Page_any p cap n m page w h hn (by have := hm.1; omega))
  have hsm := pageOf_small hm page
  have hde := Decode_any d.interval (pageOf m page).1 hsm
  have Hs := Lib.hid hs
  have hmp := method_page
  by_cases h1 : (pageOf m page).2 = 0
  · have H1 := Lib.hid h1
    have hl1 := fun h => @loadOf_none m d.interval page h1 h
    have hl2 := fun h => @loadOf_nil m d.interval page h1 h
    have hl3 := fun L h k => @loadOf_some m d.interval page L h1 h k
    have Hl1 := Lib.hid hl1
    have Hl2 := Lib.hid hl2
    have Hl3 := Lib.hid hl3
    clear hs hl1 hl2 hl3 h1
    generalize (pageOf m page).1 = s at *
    generalize (pageOf m page).2 = ep at *
    have h1 := H1.out
    subst h1
    have Hde := Lib.hid hde
    clear hde
    go_enter Tryd.func52, Tryd.ntmps52
    go_upto_region 1 with (fail)
    refine wp_name (fun w0 => Ext w w0 ∧ Blk w0 w.heap.size (.cells #[.iface 29 (.slice p n cap), .int .i64 h.applied, .int .i64 h.count, .int .i64 h.fin, .int .i64 h.root, .int .i64 h.height, .int .i64 h.splits, .int .i64 h.areas, .int .i64 d.id, .int .i64 d.org, .int .i64 d.format, .int .i64 d.length, .int .i64 d.block, .int .i64 d.keyAt, .int .i64 d.keyLength, .int .i64 d.interval, .int .i64 d.area, .int .i64 d.freeInterval, .int .i64 d.freeArea, .int .i64 d.base, .int .i64 d.altAt, .int .i64 d.altLength, .bool d.unique, .int .i64 d.cls, .string ⟨d.volume.toArray⟩, .string ⟨d.owner.toArray⟩, .int .i64 d.created, .int .i64 d.expires, .bool d.archived] 77)) ⟨Ext.alloc _ _, Blk.new w _⟩ ?_
    rintro w0 ⟨he0, hb2⟩
    have c0 := Blk.val hb2 0 _ rfl
    have c15 := Blk.val hb2 15 _ rfl
    go_wp2_with (first | (go_at_call 65; refine (Hpg.out _ (Hs.out.ext he0)).mono ?_; rintro e w1 ⟨rfl, rfl⟩))
    refine (Hde.out _).mono ?_
    rintro e w2 ⟨he2, ⟨q, cq, L, rfl, hsl, hsmL, hel, hc1, hc2, hown⟩ | ⟨rfl, hno⟩⟩
    · by_cases hL : L = []
      · subst hL
        have HR := Lib.hid (Hl2.out hel)
        clear hsl hel hown
        go_wp2
        go_ret2
        exact loadOut_no (he0.trans he2) (by rw [HR.out]) (by decide)
      · have hLp : 0 < L.length := List.length_pos_iff.2 hL
        have hLI : ((L.length : Int) == 0) = false := by simp; omega
        have HR := Lib.hid (Hl3.out L hel hL)
        have Hown := Lib.hid (own_le hown he0.size)
        clear hsl hel hown hL
        go_wp2
        go_ret2
        exact loadOut_yes (he0.trans he2) HR.out hsmL Hown.out
    · have HR := Lib.hid (Hl1.out hno)
      have hne : decErr d.interval s ≠ 0 := by unfold decErr; split <;> (try split) <;> (try split) <;> decide
      have hneI : (decErr d.interval s != 0) = true := by simpa using hne
      generalize decErr d.interval s = c at *
      clear hno hne
      go_wp2
      go_ret2
      exact loadOut_no (he0.trans he2) (by rw [HR.out]) (by decide)
  · have HR := Lib.hid (@loadOf_page m d.interval page h1)
    have h1I : ((pageOf m page).2 != 0) = true := by simpa using h1
    clear hs hde hsm
    generalize (pageOf m page).1 = s at *
    generalize (pageOf m page).2 = ep at *
    have H1 := Lib.hid h1
    clear h1
    go_enter Tryd.func52, Tryd.ntmps52
    go_upto_region 1 with (fail)
    refine wp_name (fun w0 => Ext w w0 ∧ Blk w0 w.heap.size (.cells #[.iface 29 (.slice p n cap), .int .i64 h.applied, .int .i64 h.count, .int .i64 h.fin, .int .i64 h.root, .int .i64 h.height, .int .i64 h.splits, .int .i64 h.areas, .int .i64 d.id, .int .i64 d.org, .int .i64 d.format, .int .i64 d.length, .int .i64 d.block, .int .i64 d.keyAt, .int .i64 d.keyLength, .int .i64 d.interval, .int .i64 d.area, .int .i64 d.freeInterval, .int .i64 d.freeArea, .int .i64 d.base, .int .i64 d.altAt, .int .i64 d.altLength, .bool d.unique, .int .i64 d.cls, .string ⟨d.volume.toArray⟩, .string ⟨d.owner.toArray⟩, .int .i64 d.created, .int .i64 d.expires, .bool d.archived] 77)) ⟨Ext.alloc _ _, Blk.new w _⟩ ?_
    rintro w0 ⟨he0, hb2⟩
    have c0 := Blk.val hb2 0 _ rfl
    go_wp2_with (first | (go_at_call 65; refine (Hpg.out _ (Hs.out.ext he0)).mono ?_; rintro e w1 ⟨rfl, rfl⟩))
    go_ret2
    exact loadOut_no he0 (by rw [HR.out]) H1.out

set_option maxRecDepth 100000 in
theorem allowed_cl (q : Value) (h : Hd) (d : DS) (k : Int) (w : World) :
    Calls Tryd.prog 36 #[.agg #[q, .int .i64 h.applied, .int .i64 h.count, .int .i64 h.fin, .int .i64 h.root, .int .i64 h.height, .int .i64 h.splits, .int .i64 h.areas, .int .i64 d.id, .int .i64 d.org, .int .i64 d.format, .int .i64 d.length, .int .i64 d.block, .int .i64 d.keyAt, .int .i64 d.keyLength, .int .i64 d.interval, .int .i64 d.area, .int .i64 d.freeInterval, .int .i64 d.freeArea, .int .i64 d.base, .int .i64 d.altAt, .int .i64 d.altLength, .bool d.unique, .int .i64 d.cls, .string ⟨d.volume.toArray⟩, .string ⟨d.owner.toArray⟩, .int .i64 d.created, .int .i64 d.expires, .bool d.archived], .int .i64 k] w fun e w' => e = .returned (.bool (decide (1 ≤ k) && decide (k ≤ d.length))) ∧ Ext w w' := by
  go_enter Tryd.func36, Tryd.ntmps36
  go_upto_region 1 with (fail)
  refine wp_name (fun w0 => Ext w w0 ∧ Blk w0 w.heap.size (.cells #[q, .int .i64 h.applied, .int .i64 h.count, .int .i64 h.fin, .int .i64 h.root, .int .i64 h.height, .int .i64 h.splits, .int .i64 h.areas, .int .i64 d.id, .int .i64 d.org, .int .i64 d.format, .int .i64 d.length, .int .i64 d.block, .int .i64 d.keyAt, .int .i64 d.keyLength, .int .i64 d.interval, .int .i64 d.area, .int .i64 d.freeInterval, .int .i64 d.freeArea, .int .i64 d.base, .int .i64 d.altAt, .int .i64 d.altLength, .bool d.unique, .int .i64 d.cls, .string ⟨d.volume.toArray⟩, .string ⟨d.owner.toArray⟩, .int .i64 d.created, .int .i64 d.expires, .bool d.archived] 77)) ⟨Ext.alloc _ _, Blk.new w _⟩ ?_
  rintro w0 ⟨he0, hb2⟩
  have c0 := Blk.val hb2 11 _ rfl
  go_wp2
  all_goals go_ret
  all_goals exact ⟨ret_bool (by first | (simp [*]; done) | (simp [*]; omega)), he0⟩
end Go.Proofs.YtkhlglkipeoalaaDoor
