/- The walk of the law EntryseqReads. -/
import Derived.Test.YtkhlglkipeoalaaDoorX33
import Derived.Test.YtkhlglkipeoalaaDoorXN
import Derived.Test.YtkhlglkipeoalaaDoorOp
import Derived.Test.YtkhlglkipeoalaaDoorOp3
import Derived.Test.YtkhlglkipeoalaaDoorCards
import Derived.Test.YtkhlglkipeoalaaDoorTie
import Derived.WalkKit
import Derived.ProofKit
import Derived.OpenShut
import Derived.ShutString
import Derived.ChangeMaps5
import Derived.Below
import Derived.Lay
import Derived.Deep.DeepHandedRow
set_option linter.unusedSimpArgs false
set_option linter.unusedVariables false
namespace Go.Proofs.YtkhlglkipeoalaaDoor
open Go.RowKit Dsd

set_option maxRecDepth 100000 in
set_option maxHeartbeats 4000000 in
theorem EntryseqReads_any (p : Option Addr) (cap n : Nat) (m : Recs) (h : Hd) (d : DS) (a : Int) (hwr : ∀ s : Int, 0 < s → IntKind.i64.wrap (a.tdiv s) = a.tdiv s) (w : World) (hs : Strs w p m) (hn : m.length = n) (hcap : n ≤ cap) (hcm : cap ≤ maxLen) :
    Calls Tryd.prog 8 #[.slice p n cap, .agg #[.int .i64 h.applied, .int .i64 h.count, .int .i64 h.fin, .int .i64 h.root, .int .i64 h.height, .int .i64 h.splits, .int .i64 h.areas], .agg #[.int .i64 d.id, .int .i64 d.org, .int .i64 d.format, .int .i64 d.length, .int .i64 d.block, .int .i64 d.keyAt, .int .i64 d.keyLength, .int .i64 d.interval, .int .i64 d.area, .int .i64 d.freeInterval, .int .i64 d.freeArea, .int .i64 d.base, .int .i64 d.altAt, .int .i64 d.altLength, .bool d.unique, .int .i64 d.cls, .string ⟨d.volume.toArray⟩, .string ⟨d.owner.toArray⟩, .int .i64 d.created, .int .i64 d.expires, .bool d.archived], .int .i64 a] w fun e w' => e = .returned (.bool true) ∧ Ext w w' := by
  have Hsm := Lib.hid (fun w h => Small_any p cap n m 12 w h hn (by have := hcm; omega))
  have Hs := Lib.hid hs
  clear hs
  cases hsh : shortB m 12 600
  · rw [hsh] at Hsm
    go_enter Tryd.func8, Tryd.ntmps8
    go_upto_region 1 with (fail)
    refine wp_name (fun w0 => Ext w w0 ∧ HdAt w0 w.heap.size h ∧ DsAt w0 (w.heap.size + 1) d) (hd_ds w h d) ?_
    rintro w0 ⟨he0, hb1, hb2⟩
    go_wp2_with (first | (go_at_call 10; refine (awake_any _).mono ?_; rintro e w1 ⟨rfl, he1⟩) | (go_at_call 20; refine (Hsm.out _ (Hs.out.ext (he0.trans he1))).mono ?_; rintro e w2 ⟨rfl, rfl⟩))
    go_ret
    exact ⟨rfl, he0.trans he1⟩
  rw [hsh] at Hsm
  have hm := short_small hsh (by omega)
  have hml : m.length ≤ 1000000 := hm.1
  have hml2 : m.length ≤ 12 := by unfold shortB at hsh; simp at hsh; exact hsh.1
  have HG1 := Lib.hid (fun w h1 => Get_any p n cap m h d a hwr w h1 hn hm)
  have HG2 := Lib.hid (fun w h1 => Get_ref p n cap m h d a hwr w h1 hn hm)
  have HN1 := Lib.hid (fun w h1 => Next_any p n cap m h d a hwr w h1 hn hm)
  have HN2 := Lib.hid (fun w h1 => Next_ref p n cap m h d a hwr w h1 hn hm)
  have HA1 := Lib.hid (fun w0 h1 (e0 : Ext w w0) => (All_any p n cap m h d w0 h1 hn hm (by omega)).mono (fun e' w'' a => allOut_F e0.size a))
  have HA2 := Lib.hid (fun w0 h1 (e0 : Ext w w0) => (All_ref p n cap m h d w0 h1 hn hm (by omega)).mono (fun e' w'' a => allOut_F e0.size a))
  have hall : (allOf m h d).1.length ≤ 1000000 := by
    have hl := scan_len m d.interval h.fin m.length 1 (by omega) (by omega)
    unfold allOf
    split
    · simp
    · split
      · simp
      · simp; omega
  unfold NextOut at HN1 HN2
  generalize getOf m h d a = RG at *
  generalize nextOf m h d a = RN at *
  generalize allOf m h d = RA at *
  obtain ⟨sg, eg⟩ := RG
  obtain ⟨⟨an, sn⟩, en⟩ := RN
  obtain ⟨la, ea⟩ := RA
  simp only at HG1 HG2 HN1 HN2 HA1 HA2 hall
  clear hwr hsh hm
  go_enter Tryd.func8, Tryd.ntmps8
  go_upto_region 1 with (fail)
  refine wp_name (fun w0 => Ext w w0 ∧ HdAt w0 w.heap.size h ∧ DsAt w0 (w.heap.size + 1) d) (hd_ds w h d) ?_
  rintro w0 ⟨he0, hb1, hb2⟩
  go_upto_region 6 with (first | (go_at_call 10; refine (awake_any _).mono ?_; rintro e w1 ⟨rfl, he1⟩) | (go_at_call 20; refine (Hsm.out _ (Hs.out.ext (he0.trans he1))).mono ?_; rintro e w2 ⟨rfl, rfl⟩))
  refine wp_name (fun w0 => Ext w w0 ∧ HdAt w0 w.heap.size h ∧ DsAt w0 (w.heap.size + 1) d) ⟨he0.trans he1, hb1.ext he1, hb2.ext he1⟩ ?_
  clear he0 he1 hb1 hb2
  rintro w0 ⟨he0, hb1, hb2⟩
  go_upto_region 7 with (first | (refine wpList_hd rfl (.tmp 5) rfl _ rfl h hb1 ?_) | (refine wpList_ds rfl (.tmp 6) rfl _ rfl d hb2 ?_) | (go_at_call 29; refine (HG1.out _ (Hs.out.ext he0)).mono ?_; rintro e w' ⟨rfl, he'⟩))
  refine wp_name (fun w0 => Ext w w0 ∧ HdAt w0 w.heap.size h ∧ DsAt w0 (w.heap.size + 1) d) ⟨he0.trans he', hb1.ext he', hb2.ext he'⟩ ?_
  clear he0 he' hb1 hb2
  rintro w0 ⟨he0, hb1, hb2⟩
  go_upto_region 8 with (first | (refine wpList_hd rfl (.tmp 5) rfl _ rfl h hb1 ?_) | (refine wpList_ds rfl (.tmp 6) rfl _ rfl d hb2 ?_) | (go_at_call 30; refine (HG2.out _ (Hs.out.ext he0)).mono ?_; rintro e w' ⟨rfl, he'⟩))
  refine wp_name (fun w0 => Ext w w0 ∧ HdAt w0 w.heap.size h ∧ DsAt w0 (w.heap.size + 1) d) ⟨he0.trans he', hb1.ext he', hb2.ext he'⟩ ?_
  clear he0 he' hb1 hb2
  rintro w0 ⟨he0, hb1, hb2⟩
  go_upto_region 9 with (first | (refine wpList_hd rfl (.tmp 5) rfl _ rfl h hb1 ?_) | (refine wpList_ds rfl (.tmp 6) rfl _ rfl d hb2 ?_) | (go_at_call 31; refine (HN1.out _ (Hs.out.ext he0)).mono ?_; rintro e w' ⟨rfl, he'⟩))
  refine wp_name (fun w0 => Ext w w0 ∧ HdAt w0 w.heap.size h ∧ DsAt w0 (w.heap.size + 1) d) ⟨he0.trans he', hb1.ext he', hb2.ext he'⟩ ?_
  clear he0 he' hb1 hb2
  rintro w0 ⟨he0, hb1, hb2⟩
  go_upto_region 10 with (first | (refine wpList_hd rfl (.tmp 5) rfl _ rfl h hb1 ?_) | (refine wpList_ds rfl (.tmp 6) rfl _ rfl d hb2 ?_) | (go_at_call 32; refine (HN2.out _ (Hs.out.ext he0)).mono ?_; rintro e w' ⟨rfl, he'⟩))
  refine wp_name (fun w0 => Ext w w0 ∧ HdAt w0 w.heap.size h ∧ DsAt w0 (w.heap.size + 1) d) ⟨he0.trans he', hb1.ext he', hb2.ext he'⟩ ?_
  clear he0 he' hb1 hb2
  rintro w0 ⟨he0, hb1, hb2⟩
  go_upto_region 11 with (first | (refine wpList_hd rfl (.tmp 5) rfl _ rfl h hb1 ?_) | (refine wpList_ds rfl (.tmp 6) rfl _ rfl d hb2 ?_) | (go_at_call 25; refine (HA1.out _ (Hs.out.ext he0) he0).mono ?_; rintro e w' ⟨v, rfl, he', q1, c1, rfl, ho1⟩))
  refine wp_name (fun w0 => Ext w w0 ∧ HdAt w0 w.heap.size h ∧ DsAt w0 (w.heap.size + 1) d ∧ w0.ownsRow w.heap.size 61 2 (.slice q1 la.length c1) la.length (prCells la)) ⟨he0.trans he', hb1.ext he', hb2.ext he', ho1⟩ ?_
  clear he0 he' hb1 hb2 ho1
  rintro w0 ⟨he0, hb1, hb2, ho1⟩
  have Ho1 := Lib.hid ho1
  clear ho1
  go_upto_region 12 with (first | (refine wpList_hd rfl (.tmp 5) rfl _ rfl h hb1 ?_) | (refine wpList_ds rfl (.tmp 6) rfl _ rfl d hb2 ?_) | (go_at_call 33; refine (HA2.out _ (Hs.out.ext he0) he0).mono ?_; rintro e w' ⟨v, rfl, he', q2, c2, rfl, ho2⟩))
  obtain ⟨_, _, e1, hP1, _⟩ := own_prs (own_ext Ho1.out he')
  cases e1
  obtain ⟨_, _, e2, hP2, _⟩ := own_prs ho2
  cases e2
  have HSP := Lib.hid (SamePairs_any q1 q2 c1 la.length c2 la.length la la w' hP1 hP2 rfl rfl hall hall)
  have HEN := Lib.hid (he0.trans he')
  clear he0 he' hb1 hb2 ho2 hP1 hP2
  go_wp2_with (go_at_call 26; refine HSP.out.mono ?_; rintro e w'' ⟨rfl, nn, rfl⟩)
  go_ret
  exact ⟨by simp, HEN.out.trans (Ext.drewN _ _)⟩
end Go.Proofs.YtkhlglkipeoalaaDoor
/- The statement EntryseqReads: its walk joined to the given row and card. -/
namespace Go.Proofs.YtkhlglkipeoalaaDoor.entryseqReads
open Go.ChangeShapes Go.WideShapes Go.ChangeAt Go.RowKit Dsd
open Go.ChangeMaps (open_string shut_string)
set_option maxRecDepth 100000
theorem own : ownKnob Tryd.prog.godebug = none := by kernel_rfl
theorem laidOut : laidOutB Tryd.prog = true := by kernel_rfl

/-- What the walk gives, for every argument and every world. -/
theorem contract (H : Type) (enc : TypeId × Value → H) (W : World) (base : Nat) (args : Array Value) (ds gs : List (DataW H)) (before : List MemPlace)
    (hval : ∀ (j : Nat) t v, Tryd.f8.params[j]? = some t → args[j]? = some v → Value.okWide Tryd.prog W .any base t v)
    (hW : DataW.Whole enc Tryd.prog Tryd.f8.params.toList Rows.entryseqReadsSpec.vars false W args.toList ds gs before) :
    Calls Tryd.prog 8 args W fun e W' => ∃ v, e = .returned v ∧ Rows.entryseqReadsSpec.post enc Tryd.prog Tryd.f8 false true false false W args v W' := by
  have hW' := hW
  obtain ⟨p, q, hA0, hV, rfl, hfz, hnd⟩ := hW
  have hA : DataW.TrodAll enc Tryd.prog W 0 (fun _ => true) true Tryd.f8.params.toList args.toList ds p := hA0
  rw [Tryd.params8] at hA hval
  obtain ⟨v0, vs0, d0, ds0, p0, q0, hargs, rfl, rfl, h0, r0⟩ := trodAll_cons hA
  obtain ⟨v1, vs1, d1, ds1, p1, q1, rfl, rfl, rfl, h1, r1⟩ := trodAll_cons r0
  obtain ⟨v2, vs2, d2, ds2, p2, q2, rfl, rfl, rfl, h2, r2⟩ := trodAll_cons r1
  obtain ⟨v3, vs3, d3, ds3, p3, q3, rfl, rfl, rfl, h3, r3⟩ := trodAll_cons r2
  obtain ⟨rfl, rfl, rfl⟩ := trodAll_nil r3
  obtain rfl : args = #[v0, v1, v2, v3] := by cases args; simp_all
  obtain ⟨rfl, rfl⟩ := trodVars_none hV
  obtain ⟨a0, len0, cap0, rfl⟩ := okWide_slice Tryd.underlying24 (hval 0 24 v0 rfl rfl)
  have k0 := h0
  have lt0 : ∀ x ∈ p0, x.block < W.heap.size := by obtain ⟨m, hm⟩ := k0; exact DataW.trod_lt m _ _ _ hm
  obtain ⟨L0, hs0, hl0, hc0, hm0, hw0⟩ := open_strs Tryd.underlying24 Tryd.underlying9 (by kernel_rfl) h0
  have k1 := h1
  have lt1 : ∀ x ∈ p1, x.block < W.heap.size := by obtain ⟨m, hm⟩ := k1; exact DataW.trod_lt m _ _ _ hm
  obtain ⟨x1, rfl⟩ := open_hd (hval 1 28 v1 rfl rfl) h1
  have k2 := h2
  have lt2 : ∀ x ∈ p2, x.block < W.heap.size := by obtain ⟨m, hm⟩ := k2; exact DataW.trod_lt m _ _ _ hm
  obtain ⟨x2, rfl⟩ := open_ds (hval 2 23 v2 rfl rfl) h2
  obtain ⟨a3, rfl, rfl, rfl, w3⟩ := open_int Tryd.underlying3 (hval 3 3 v3 rfl rfl) h3
  clear hA0 hval
  have walk := EntryseqReads_any a0 cap0 len0 L0 x1 x2 a3 (fun s hs => tdiv_wrap w3 hs) W hs0 hl0 hc0 hm0
  refine walk.mono fun e W' ⟨he, bel⟩ => ?_
  subst he
  exact ⟨_, rfl, _, _, _, [], _, [], hW', trodAll_mk1 (shut_bool Tryd.underlying4 _), (trodAll_cons_mk (Below.trod laidOut (by kernel_rfl) (of_decide_eq_true (by kernel_rfl)) k0 bel lt0) (trodAll_cons_mk (Below.trod laidOut (by kernel_rfl) (of_decide_eq_true (by kernel_rfl)) k1 bel lt1) (trodAll_cons_mk (Below.trod laidOut (by kernel_rfl) (of_decide_eq_true (by kernel_rfl)) k2 bel lt2) (trodAll_cons_mk (shut_int Tryd.underlying3 w3) trodAll_mk0)))), rfl, bel.frame _, fun h => by cases h⟩

/-- The world of the witness: its tables laid. -/
noncomputable def laidWorld (os : Os) : World := World.laidAll Tryd.prog os Rows.entryseqReadsRow.laid
theorem laid_met (os : Os) : laidMet Tryd.prog Rows.entryseqReadsRow.laid ((laidWorld os).forCall (fun _ _ => 0) ⟨#[], #[.slice none 0 0, .agg #[.int .i64 0, .int .i64 0, .int .i64 0, .int .i64 0, .int .i64 0, .int .i64 0, .int .i64 0], .agg #[.int .i64 0, .int .i64 0, .int .i64 0, .int .i64 0, .int .i64 0, .int .i64 0, .int .i64 0, .int .i64 0, .int .i64 0, .int .i64 0, .int .i64 0, .int .i64 0, .int .i64 0, .int .i64 0, .bool false, .int .i64 0, .string ⟨#[]⟩, .string ⟨#[]⟩, .int .i64 0, .int .i64 0, .bool false], .int .i64 0], []⟩).memory :=
  laidMet_laidAll _ (by kernel_rfl) (by kernel_rfl)
theorem reads (os : Os) {H : Type} (enc : TypeId × Value → H) : ∃ places, DataW.whole enc Tryd.prog ((laidWorld os).forCall (fun _ _ => 0) ⟨#[], #[.slice none 0 0, .agg #[.int .i64 0, .int .i64 0, .int .i64 0, .int .i64 0, .int .i64 0, .int .i64 0, .int .i64 0], .agg #[.int .i64 0, .int .i64 0, .int .i64 0, .int .i64 0, .int .i64 0, .int .i64 0, .int .i64 0, .int .i64 0, .int .i64 0, .int .i64 0, .int .i64 0, .int .i64 0, .int .i64 0, .int .i64 0, .bool false, .int .i64 0, .string ⟨#[]⟩, .string ⟨#[]⟩, .int .i64 0, .int .i64 0, .bool false], .int .i64 0], []⟩).memory Tryd.f8.params.toList Rows.entryseqReadsSpec.vars false (#[.slice none 0 0, .agg #[.int .i64 0, .int .i64 0, .int .i64 0, .int .i64 0, .int .i64 0, .int .i64 0, .int .i64 0], .agg #[.int .i64 0, .int .i64 0, .int .i64 0, .int .i64 0, .int .i64 0, .int .i64 0, .int .i64 0, .int .i64 0, .int .i64 0, .int .i64 0, .int .i64 0, .int .i64 0, .int .i64 0, .int .i64 0, .bool false, .int .i64 0, .string ⟨#[]⟩, .string ⟨#[]⟩, .int .i64 0, .int .i64 0, .bool false], .int .i64 0] : Array Value).toList 8 = some ([.nil, .agg [.lit (.int .i64 0), .lit (.int .i64 0), .lit (.int .i64 0), .lit (.int .i64 0), .lit (.int .i64 0), .lit (.int .i64 0), .lit (.int .i64 0)], .agg [.lit (.int .i64 0), .lit (.int .i64 0), .lit (.int .i64 0), .lit (.int .i64 0), .lit (.int .i64 0), .lit (.int .i64 0), .lit (.int .i64 0), .lit (.int .i64 0), .lit (.int .i64 0), .lit (.int .i64 0), .lit (.int .i64 0), .lit (.int .i64 0), .lit (.int .i64 0), .lit (.int .i64 0), .lit (.bool false), .lit (.int .i64 0), .lit (.string []), .lit (.string []), .lit (.int .i64 0), .lit (.int .i64 0), .lit (.bool false)], .lit (.int .i64 0)], [], places) :=
  ⟨[], by kernel_rfl⟩

theorem lifted (os : Os) (started : os.Started) (H : Type) (enc : TypeId × Value → H) (F : Stop.Interp) :
    ReturnsInHanded {} Tryd.checked os 8 .any ((OpenSpec.ofChange Rows.entryseqReadsSpec).preRow enc Tryd.prog Tryd.f8 Rows.entryseqReadsRow.domain false Rows.entryseqReadsRow.laid) (((OpenSpec.ofChange Rows.entryseqReadsSpec).at F).post enc Tryd.prog Tryd.f8 false true false false) := by
  obtain ⟨places, hx⟩ := reads os enc
  refine returnsInHanded_of_row (C := Tryd.checked) (s := OpenSpec.ofChange Rows.entryseqReadsSpec) own started (by kernel_rfl) Tryd.func8
    (witness_row_at (enc := enc) (C := Tryd.checked) false (laidWorld os) #[.slice none 0 0, .agg #[.int .i64 0, .int .i64 0, .int .i64 0, .int .i64 0, .int .i64 0, .int .i64 0, .int .i64 0], .agg #[.int .i64 0, .int .i64 0, .int .i64 0, .int .i64 0, .int .i64 0, .int .i64 0, .int .i64 0, .int .i64 0, .int .i64 0, .int .i64 0, .int .i64 0, .int .i64 0, .int .i64 0, .int .i64 0, .bool false, .int .i64 0, .string ⟨#[]⟩, .string ⟨#[]⟩, .int .i64 0, .int .i64 0, .bool false], .int .i64 0] (World.laidAll_os _ _ _) (by kernel_rfl) (by kernel_rfl) (by kernel_rfl)
      (OpenSpec.preRow_of_cond 8 hx (by kernel_rfl) (fun k hk => by cases hk) (by kernel_rfl) (laid_met os))) ?_
  intro W base args ds gs before hval hW _ _ _ hL _ _
  exact contract H enc W base args ds gs before hval hW

theorem said : Rows.EntryseqReadsSaid :=
  OpenClaim.holds_of_cond 8 Tryd.f8 rfl rfl rfl rfl rfl rfl rfl ⟨rfl, rfl, rfl, rfl, rfl⟩ rfl rfl rfl rfl rfl (by kernel_rfl) Tryd.func8 (by kernel_rfl)
    (of_decide_eq_true (by kernel_rfl)) (by unfold Func.isWrapper; first | (rw [if_pos (by decide +kernel)]; kernel_rfl) | (rw [if_neg (by decide +kernel)]; exact ⟨rfl, rfl⟩))
    (fun os started H enc _ F => by rw [OpenClaim.pre_eq_preRow]; exact lifted os started H enc F)

theorem plain (f : FuncId) (fn : Func) (hf : Tryd.pinned.checked.prog.funcNamed Tryd.f8.name = some f) (hfn : Tryd.pinned.checked.prog.funcs[f]? = some fn) :
    false = Tryd.pinned.checked.prog.looks [] ∧ ∀ (j : Nat) t, fn.params[j]? = some t → Tryd.pinned.checked.prog.wantsStandIn t = false := by
  obtain rfl : f = 8 := Option.some.inj ((show Tryd.prog.funcNamed Tryd.f8.name = some 8 by kernel_rfl).symm.trans hf) |>.symm
  obtain rfl : fn = Tryd.f8 := (Option.some.inj (Tryd.func8.symm.trans hfn)).symm
  refine ⟨by kernel_rfl, fun j t ht => ?_⟩
  rw [Tryd.params8] at ht
  have hm : t ∈ #[24, 28, 23, 3] := Array.mem_of_getElem? ht
  have hall : (#[24, 28, 23, 3].all fun t => !Tryd.prog.wantsStandIn t) = true := by kernel_rfl
  have := (Array.all_eq_true'.1 hall) t hm
  exact (show Tryd.prog.wantsStandIn t = false by simpa using this)

/-- The statement. -/
theorem card : Rows.EntryseqReadsCardSaid :=
  Claim7.holds_tied_plain_at .later [] _ _ _ _ said (fun _ h => by cases h) (by kernel_rfl) (fun _ h => by cases h) entryseqReads_row_tie rfl ⟨rfl, rfl⟩ (by kernel_rfl) rfl plain (by kernel_rfl)
end Go.Proofs.YtkhlglkipeoalaaDoor.entryseqReads
