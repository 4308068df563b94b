/- The walks of package relative's place, load, write. -/
import Derived.Test.YtjgdhlpnpihkdaaDoorR3
set_option linter.unusedSimpArgs false
set_option linter.unusedVariables false
namespace Go.Proofs.YtjgdhlpnpihkdaaDoor
open Go.RowKit Dsd

theorem results_row0 {P : Program} {fn : Func} {p : Tmp} {ty : TypeId} (h : fn.results = #[.cell p ty]) (tmps : Array Value) (w : World) (g : Nat) (t : TypeId) (cs : Array Value) (d : TypeDesc)
    (hp : tmps.getD p undef = .pointer (some ⟨g, 0, none⟩)) (hg : Blk w g (.cells cs t)) (hu : P.underlying ty = some d) (hd : (match d with | .struct _ | .array _ _ => true | _ => false) = true) (hi : (P.info? ty).map (·.size) = some cs.size) :
    (results fn tmps).run P w = .ok (.agg cs) w := by
  have hp' : tmps[p]?.getD undef = .pointer (some ⟨g, 0, none⟩) := by simpa using hp
  have hlr := run_loadVar_row w g t ty cs (0, 0) d hg hu hd hi
  simp [results, h, hp', asAddr, hlr, Sem.run_bind]

/-- Page and index of a slot, in Go's own division. -/
theorem place_go {d : DS} (hv : validB d = true) {slot : Int} (h1 : 1 ≤ slot) (h2 : slot ≤ 65536) :
    (slot - 1).tdiv (slN d) = pageS d slot - 1 ∧ (slot - 1).tmod (slN d) = ((idxS d slot : Nat) : Int) ∧ 1 ≤ pageS d slot ∧ pageS d slot ≤ 65536 ∧ idxS d slot < 127 ∧ (idxS d slot : Int) < slN d := by
  obtain ⟨n1, n2⟩ := slN_pos hv
  obtain ⟨a1, a2, a3, a4⟩ := slot_place hv h1
  refine ⟨?_, ?_, a1, by omega, by omega, a4⟩
  · rw [Int.tdiv_eq_ediv_of_nonneg (by omega)]; unfold pageS; omega
  · rw [Int.tmod_eq_emod_of_nonneg (by omega), a3]

set_option maxRecDepth 100000 in
theorem place_any (q : Value) (h : Hd) (d : DS) (hv : validB d = true) (slot : Int) (h1 : 1 ≤ slot) (h2 : slot ≤ 65536) (w : World) :
    Calls Tryd.prog 68 #[.agg (rcCells q h d), .int .i64 slot] w fun e w' => e = .returned (.tuple #[.int .i64 (pageS d slot), .int .i64 ((idxS d slot : Nat) : Int)]) ∧ Ext w w' := by
  obtain ⟨a1, a2, a3, a4, a5, a6⟩ := place_go hv h1 h2
  have hn := (slN_pos hv).1
  have hn0 : ¬ slN d = 0 := by omega
  have i1 : IntKind.i64.wrap (slot - 1) = slot - 1 := IntWalk.i64_in _ (by omega)
  have i2 : IntKind.i64.wrap (pageS d slot - 1) = pageS d slot - 1 := IntWalk.i64_in _ (by omega)
  have i3 : IntKind.i64.wrap (1 + (pageS d slot - 1)) = pageS d slot := by rw [IntWalk.i64_in _ (by omega)]; omega
  have i4 : IntKind.i64.wrap ((idxS d slot : Nat) : Int) = idxS d slot := IntWalk.i64_in _ (by omega)
  have hbx := Blk.new w (.cells (rcCells q h d) 122)
  have c29 : (w.alloc (.cells (rcCells q h d) 122)).cell? ⟨w.heap.size, 29, none⟩ = some (.int .i64 (slN d)) := Blk.val hbx 29 _ rfl
  have HE : Hid (Ext w (w.alloc (.cells (rcCells q h d) 122))) := Lib.hid (Ext.alloc _ _)
  have hz : w.heap.size < (w.alloc (.cells (rcCells q h d) 122)).heap.size := Blk.lt hbx
  generalize slN d = N at *
  generalize pageS d slot = pg at *
  generalize idxS d slot = ix at *
  clear hbx
  go_enter Tryd.func68, Tryd.ntmps68
  go_upto_region 1 with (fail)
  generalize w.alloc _ = w1 at *
  go_quiet (fail)
  go_wp2
  go_ret2
  exact ⟨rfl, HE.out.trans (Ext.drewN _ _)⟩

/-- What load hands back: the slots of a page in a row of their own, or the error. -/
def RLoadOut (m : List (List UInt8)) (d : DS) (page : Int) (w : World) (e : Ending) (w' : World) : Prop :=
  Ext w w' ∧ (((loadS m d page).2 ≠ 0 ∧ e = .returned (.tuple #[.slice none 0 0, .int .i64 (loadS m d page).2])) ∨
    ((loadS m d page).2 = 0 ∧ ∃ q cq, e = .returned (.tuple #[.slice q (loadS m d page).1.length cq, .int .i64 0]) ∧ w'.ownsRow w.heap.size 131 2 (.slice q (loadS m d page).1.length cq) (loadS m d page).1.length (slotCells (loadS m d page).1)))
theorem rload_no {m : List (List UInt8)} {d : DS} {page : Int} {w w' : World} {c : Int} (h : Ext w w') (hc : (loadS m d page).2 = c) (h0 : c ≠ 0) : RLoadOut m d page w (.returned (.tuple #[.slice none 0 0, .int .i64 c])) w' :=
  ⟨h, .inl ⟨by rw [hc]; exact h0, by rw [hc]⟩⟩
theorem rload_yes {m : List (List UInt8)} {d : DS} {page : Int} {L : List Slt} {w w' : World} {q : Option Addr} {k cq : Nat} (h : Ext w w') (hr : loadS m d page = (L, 0)) (hk : k = L.length)
    (ho : w'.ownsRow w.heap.size 131 2 (.slice q k cq) k (slotCells L)) : RLoadOut m d page w (.returned (.tuple #[.slice q k cq, .int .i64 0])) w' := by
  subst hk
  refine ⟨h, .inr ?_⟩
  rw [hr]
  exact ⟨rfl, q, cq, rfl, ho⟩

set_option maxRecDepth 100000 in
theorem rload_any (p : Option Addr) (cap n : Nat) (m : List (List UInt8)) (h : Hd) (d : DS) (page : Int) (w : World) (hs : Strs w p m) (hn : m.length = n) (hm : Small m) :
    Calls Tryd.prog 69 #[.agg (rcCells (mV p n cap) h d), .int .i64 page] w (RLoadOut m d page w) := by
  have Hpg := Lib.hid (fun w h => Page_any p cap n m page w h hn (by have := hm.1; omega))
  have hsm := pageOf_small hm page
  have hde := DecodeSlots_any d.interval d.length (pageOf m page).1 hsm
  have Hs := Lib.hid hs
  have hmp := method_page
  by_cases h1 : (pageOf m page).2 = 0
  · have H1 := Lib.hid h1
    have Hl2 := Lib.hid (fun h2 => @loadS_bad m d page h1 h2)
    have Hl3 := Lib.hid (fun h2 => @loadS_ok m d page h1 h2)
    clear hs h1
    generalize (pageOf m page).1 = s at *
    generalize (pageOf m page).2 = ep at *
    have h1 := H1.out
    subst h1
    have Hde := Lib.hid hde
    clear hde
    go_enter Tryd.func69, Tryd.ntmps69
    go_upto_region 1 with (fail)
    refine wp_name (fun w0 => Ext w w0 ∧ Blk w0 w.heap.size (.cells (rcCells (mV p n cap) h d) 122)) ⟨Ext.alloc _ _, Blk.new w _⟩ ?_
    rintro w0 ⟨he0, hb2⟩
    have c0 := Blk.val hb2 0 _ rfl
    have c15 := Blk.val hb2 15 _ rfl
    have c11 := Blk.val hb2 11 _ rfl
    go_wp2_with (first | (go_at_call 92; refine (Hpg.out _ (Hs.out.ext he0)).mono ?_; rintro e w1 ⟨rfl, rfl⟩))
    refine (Hde.out _).mono ?_
    rintro e w2 ⟨he2, q, cq, k, rfl, hk, _, _, _, hown⟩
    by_cases hd : dsErr d.interval d.length s = 0
    · have HR := Lib.hid (Hl3.out hd)
      have hdI : (dsErr d.interval d.length s != 0) = false := by simp [hd]
      have Hown := Lib.hid (own_le hown he0.size)
      have Hk := Lib.hid hk
      generalize dsErr d.interval d.length s = c at *
      clear hown hd hk
      go_wp2
      go_ret2
      exact rload_yes (he0.trans he2) HR.out Hk.out Hown.out
    · have HR := Lib.hid (Hl2.out hd)
      have hdI : (dsErr d.interval d.length s != 0) = true := by simpa using hd
      generalize dsErr d.interval d.length s = c at *
      clear hown hd hk
      go_wp2
      go_ret2
      exact rload_no (he0.trans he2) (by rw [HR.out]) (by decide)
  · have HR := Lib.hid (@loadS_page m d page h1)
    have h1I : ((pageOf m page).2 != 0) = true := by simpa using h1
    clear hs hde hsm
    generalize (pageOf m page).1 = s at *
    generalize (pageOf m page).2 = ep at *
    have H1 := Lib.hid h1
    clear h1
    go_enter Tryd.func69, Tryd.ntmps69
    go_upto_region 1 with (fail)
    refine wp_name (fun w0 => Ext w w0 ∧ Blk w0 w.heap.size (.cells (rcCells (mV p n cap) h d) 122)) ⟨Ext.alloc _ _, Blk.new w _⟩ ?_
    rintro w0 ⟨he0, hb2⟩
    have c0 := Blk.val hb2 0 _ rfl
    go_wp2_with (first | (go_at_call 92; refine (Hpg.out _ (Hs.out.ext he0)).mono ?_; rintro e w1 ⟨rfl, rfl⟩))
    go_ret2
    exact rload_no he0 (by rw [HR.out]) H1.out

theorem wr_one (k : Int) (s : List UInt8) : (#[.int .i64 k, .string ⟨s.toArray⟩] : Array Value).all (·.oneCell') = true := by simp [Value.oneCell']
theorem wrSize : (Tryd.prog.info? 72).map (·.size) = some 2 := by kernel_rfl
theorem wr_built (k : Int) (s : List UInt8) : Tryd.prog.built 72 [(0, .int .i64 k), (1, .string ⟨s.toArray⟩)] = some #[.int .i64 k, .string ⟨s.toArray⟩] := by kernel_rfl

set_option maxRecDepth 100000 in
theorem write_any (q : Value) (h : Hd) (d : DS) (page : Int) (p : Option Addr) (cap m : Nat) (L : List Slt) (hm : L.length = m) (hml : m ≤ 1000000) (w : World) (hs : Slts w p L) :
    Calls Tryd.prog 70 #[.agg (rcCells q h d), .int .i64 page, .slice p m cap] w fun e w' => e = .returned (.agg #[.int .i64 page, .string ⟨(esStr d.interval d.length L).toArray⟩]) ∧ Ext w w' := by
  have Hen := Lib.hid (fun w h => EncodeSlots_any d.interval d.length p cap m L hm w h)
  have Hs := Lib.hid hs
  clear hs
  generalize esStr d.interval d.length L = es at *
  generalize esErr d.interval d.length L = ee at *
  go_enter Tryd.func70, Tryd.ntmps70
  go_upto_region 1 with (fail)
  refine wp_name (fun w0 => Ext w w0 ∧ Blk w0 w.heap.size (.cells (rcCells q h d) 122) ∧ Blk w0 (w.heap.size + 1) (.cells #[.int .i64 0, .string ⟨#[]⟩] 72)) ⟨(Ext.alloc _ _).trans (Ext.alloc _ _), Blk.alloc (Blk.new w _) _, Blk.new1 _ _ _ (by simp)⟩ ?_
  rintro w0 ⟨he0, hb2, hb3⟩
  have c15 := Blk.val hb2 15 _ rfl
  have c11 := Blk.val hb2 11 _ rfl
  go_wp2_with (first | (go_at_call 105; refine (Hen.out _ (Hs.out.ext he0)).mono ?_; rintro e w1 ⟨rfl, he1⟩; have hb3 := he1.blk _ _ hb3) | (refine wpList_put rfl 72 (.tmp 6) (.tmp 22) rfl _ #[.int .i64 page, .string ⟨es.toArray⟩] rfl rfl _ _ hb3 wrSize rfl (wr_one _ _) ?_; intro w3 hb4 hc4))
  exact bodyPost_ret (results_row0 Tryd.results70 _ _ _ _ _ _ rfl hb4 writeDesc rfl wrSize) rfl ⟨rfl, hc4.ext (he0.trans he1) (by omega)⟩
end Go.Proofs.YtjgdhlpnpihkdaaDoor
