/- The walk of run: operations with the package, and what must be in each slot. -/
import Derived.Test.YtjgdhlpnpihkdaaDoorR18
import Derived.Test.YtjgdhlpnpihkdaaDoorP19f
set_option linter.unusedSimpArgs false
set_option linter.unusedVariables false
namespace Go.Proofs.YtjgdhlpnpihkdaaDoor
open Go.RowKit Dsd

theorem wantTy : MapTy Tryd.prog 84 3 9 := ⟨by kernel_rfl, by kernel_rfl, by kernel_rfl, fun w => by kernel_rfl⟩
theorem op_one (s : Int) (r : List UInt8) : (#[.int .i64 s, .string ⟨r.toArray⟩] : Array Value).all (·.oneCell') = true := by simp [Value.oneCell']
theorem wpList_op {ops : Array Oper} {rest : List Oper} {o : Oper} {a : Act} {w : World} {Q : Exit → Act → World → Prop} (hw : Region.wanted o (yielded ops a.tmps) = true) (x : Operand) (ho : o.op = .load 78 x)
    (g off : Nat) (hx : a.eval x = .pointer (some ⟨g, off, none⟩)) (s : Int) (r : List UInt8) (h0 : w.cell? ⟨g, off, none⟩ = some (.int .i64 s)) (h1 : w.cell? ⟨g, off + 1, none⟩ = some (.string ⟨r.toArray⟩))
    (h : wpList Tryd.prog ops Q rest (a.put o.dst (.agg #[.int .i64 s, .string ⟨r.toArray⟩])) w) : wpList Tryd.prog ops Q (o :: rest) a w :=
  BigFrame.wpList_want hw fun _ hK => wp_load_op x ho g off hx s r h0 h1 (hK _ _ h)
/-- Block mb holds what the slots F hold. -/
def WantM (w : World) (mb n : Nat) (F : List Slt) : Prop := WantAt Tryd.prog 3 9 w mb n (wantF F) (usedN F)
theorem want_made1 (w : World) (b : Nat) (hb : b = w.heap.size) : WantM (w.alloc (.map #[] 0)) b 0 [] := by
  subst hb
  unfold WantM
  rw [wantF_nil]
  exact WantAt.made w _ _ _
theorem want_cells {w : World} {mb n : Nat} {F : List Slt} (h : WantM w mb n F) {b : Nat} {cs : Array Value} {u : TypeId} (hb : Blk w b (.cells cs u)) : b ≠ mb := fun e => WantAt.not_cells h hb e.symm
/-- What stands in blocks of cells stands as the map turns. -/
theorem Wrts.chgM {w w' : World} {mb n : Nat} {F : List Slt} (hm : WantM w mb n F) (c : Chg mb w w') {p : Option Addr} {L : List (Int × List UInt8)} (h : Wrts w p L) : Wrts w' p L := by
  rcases h with h | ⟨b, off, hp, ⟨hb, cs, hbk⟩, hc⟩
  · exact .inl h
  · have hne := want_cells hm hbk
    have e := c.block b hne
    exact .inr ⟨b, off, hp, ⟨by rw [c.size]; exact hb, cs, c.blk hbk hne⟩, fun i hi => ⟨(World.cell?_of_block (a := ⟨b, _, none⟩) e).trans (hc i hi).1, (World.cell?_of_block (a := ⟨b, _, none⟩) e).trans (hc i hi).2⟩⟩
theorem own_chgM {w w' : World} {mb k : Nat} {F : List Slt} (hm : WantM w mb k F) (c : Chg mb w w') {base : Nat} {e : TypeId} {size : Nat} {v : Value} {n : Nat} {xs : List Value} (h : w.ownsRow base e size v n xs) : w'.ownsRow base e size v n xs := by
  refine ⟨h.1, ?_⟩
  rcases h.2 with hn | ⟨b, cap, cur, rfl, hb, hg, rest⟩
  · exact .inl hn
  · exact .inr ⟨b, cap, cur, rfl, hb, c.blk hg (want_cells hm hg), rest⟩
def RunOut (d : DS) (j : Nat) (w : World) (e : Ending) (w' : World) : Prop :=
  Ext w w' ∧ ∃ (h : Hd) (m : List (List UInt8)) (F : List Slt) (k : Nat) (q : Option Addr) (c mb : Nat), e = .returned (.tuple #[.agg #[.int .i64 h.applied, .int .i64 h.count, .int .i64 h.fin, .int .i64 h.root, .int .i64 h.height, .int .i64 h.splits, .int .i64 h.areas], .slice q m.length c, .map (some mb), .bool true]) ∧ Ran d j (h, m) F k ∧ Strs w' q m ∧ w.heap.size ≤ mb ∧ WantM w' mb j F
/-- What stands behind a round's operations on the map. -/
structure Rnd (w : World) (hb rb ab mb : Nat) (d : DS) (H : Hd) (M : List (List UInt8)) (ad : Addr) (cm : Nat) (G : Hd) (q3 : Option Addr) (WA : List (Int × List UInt8)) (n : Nat) (F : List Slt) (w9 : World) : Prop where
  ext : Ext w w9
  hb : HdAt w9 hb H
  ds : DsAt w9 w.heap.size d
  row : w9.ownsRow w.heap.size 9 1 (.slice (some ad) M.length cm) M.length (M.map fun s : List UInt8 => Value.string ⟨s.toArray⟩)
  ab : HdAt w9 ab G
  wr : Wrts w9 q3 WA
  rb : HdAt w9 rb Hd.zero
  map : WantM w9 mb n F

theorem Chg.trans9 {g : Nat} {a b c : World} (h : Chg g a b) (k : Chg g b c) : Chg g a c := ⟨k.os.trans h.os, k.tape.trans h.tape, k.output.trans h.output, k.size.trans h.size, fun i hi => (k.block i hi).trans (h.block i hi)⟩
theorem Rnd.chg {w : World} {hb rb ab mb : Nat} {d : DS} {H : Hd} {M : List (List UInt8)} {ad : Addr} {cm : Nat} {G : Hd} {q3 : Option Addr} {WA : List (Int × List UInt8)} {n n' : Nat} {F F' : List Slt} {w6 w9 : World} (r : Rnd w hb rb ab mb d H M ad cm G q3 WA n F w6) (c : Chg mb w6 w9) (hw : w.heap.size ≤ mb) (hm : WantM w9 mb n' F') :
    Rnd w hb rb ab mb d H M ad cm G q3 WA n' F' w9 :=
  ⟨c.ext r.ext hw, c.blk r.hb (want_cells r.map r.hb), c.blk r.ds (want_cells r.map r.ds), own_chgM r.map c r.row, c.blk r.ab (want_cells r.map r.ab), r.wr.chgM r.map c, c.blk r.rb (want_cells r.map r.rb), hm⟩
theorem own_strs_at {w : World} {base : Nat} {e : TypeId} {q : Option Addr} {n c : Nat} {L : List (List UInt8)} (h : w.ownsRow base e 1 (.slice q n c) n (L.map fun s => .string ⟨s.toArray⟩)) : Strs w q L := by
  obtain ⟨q', c', e', hs, _⟩ := own_strs_p h
  simp only [Value.slice.injEq] at e'
  rw [e'.1]; exact hs

set_option maxRecDepth 100000 in
set_option maxHeartbeats 4000000 in
theorem run19_any (p : Option Addr) (cap n : Nat) (L : List (Int × List UInt8)) (d : DS) (w : World) (hs : Opsl w p L) (hn : L.length = n) (hcap : n ≤ cap) (hcm : cap ≤ maxLen) (hn40 : n ≤ 40) (hL : ∀ i, (L.getD i (0, [])).2.length ≤ 300) (hwf : ∀ i, (Lit.int .i64 (L.getD i (0, [])).1).wf = true) (hv : validB d = true) (ho : d.org = 2) :
    Calls Tryd.prog 43 #[.agg #[.int .i64 d.id, .int .i64 d.org, .int .i64 d.format, .int .i64 d.length, .int .i64 d.block, .int .i64 d.keyAt, .int .i64 d.keyLength, .int .i64 d.interval, .int .i64 d.area, .int .i64 d.freeInterval, .int .i64 d.freeArea, .int .i64 d.base, .int .i64 d.altAt, .int .i64 d.altLength, .bool d.unique, .int .i64 d.cls, .string ⟨d.volume.toArray⟩, .string ⟨d.owner.toArray⟩, .int .i64 d.created, .int .i64 d.expires, .bool d.archived], .slice p n cap] w (RunOut d n w) := by
  subst hn
  have Hs := Lib.hid hs
  have HL := Lib.hid hL
  have HW := Lib.hid hwf
  have Hv := Lib.hid hv
  have Ho := Lib.hid ho
  clear hs hL hwf hv ho
  have hmm := @run_makeMap Tryd.prog
  go_enter Tryd.func43, Tryd.ntmps43
  go_upto_region 2 with (first
    | (refine wpList_bld (o := ⟨some 18, _, _, _, _, _⟩) rfl 24 #[] rfl [] rfl _ hdBuilt9z ?_)
    | (refine wpList_put rfl 24 (.tmp 8) (.tmp 18) rfl _ #[.int .i64 0, .int .i64 0, .int .i64 0, .int .i64 0, .int .i64 0, .int .i64 0, .int .i64 0] rfl rfl _ _ (Blk.new1 _ _ _ (by simp)) hdSize rfl (hd_one Hd.zero) ?_; intro w4 hb4 hc4))
  have e0 : w.heap.size < w.heap.size + 1 + 1 + 1 + 1 ∧ w.heap.size < w.heap.size + 1 ∧ w.heap.size + 1 ≠ w.heap.size + 1 + 1 + 1 + 1 ∧ w.heap.size ≤ w.heap.size + 1 + 1 + 1 := by omega
  refine wp_name (fun w5 => StIn w (w.heap.size + 1 + 1 + 1 + 1) d (Hd.zero, [[]]) (.slice (some ⟨w.heap.size + 1 + 1, 0, none⟩) 1 1) w5 ∧ HdAt w5 (w.heap.size + 1) Hd.zero ∧ WantM w5 (w.heap.size + 1 + 1 + 1) 0 [])
    ⟨⟨hc4.ext ((Ext.alloc _ _).trans ((Ext.alloc _ _).trans ((Ext.alloc _ _).trans ((Ext.alloc _ _).trans (Ext.alloc _ _))))) (by omega), hb4,
      hc4.blk (Blk.alloc (Blk.alloc (Blk.alloc (Blk.alloc (Blk.new w _) _) _) _) _) (by omega), own_lit9 (hc4.blk (Blk.alloc (Blk.alloc (Blk.new1 _ _ _ (by simp)) _) _) (by omega)) (by omega)⟩,
      hc4.blk (Blk.alloc (Blk.alloc (Blk.alloc (Blk.new1 _ _ _ (by simp)) _) _) _) (by omega), WantAt.chg (WantAt.ext (want_made1 _ _ (by simp)) (Ext.alloc _ _)) hc4 (by omega)⟩ ?_
  clear hb4 hc4 hmm
  rintro w5 ⟨hin, hres, hwant⟩
  obtain ⟨hwb, hrb, hrh, hmb⟩ := e0
  generalize w.heap.size + 1 + 1 + 1 + 1 = hb at *
  generalize w.heap.size + 1 + 1 + 1 = mb at *
  generalize w.heap.size + 1 + 1 = sb at *
  generalize w.heap.size + 1 = rb at *
  have Hin := Lib.hid hin
  clear hin
  go_wp2_with fail
  go_loopw [9, 23] (fun v i wr => ∃ j : Nat, j ≤ L.length ∧ i = .int .i64 j ∧ ∃ (s : St) (F : List Slt) (k : Nat), StIn w hb d s v wr ∧ HdAt wr rb Hd.zero ∧ Ran d j s F k ∧ WantM wr mb j F) (fun _ i _ => L.length - (intOf i).toNat)
  case atStart => exact ⟨0, Nat.zero_le _, rfl, _, [], 0, Hin.out, hres, ran_zero d, hwant⟩
  case round =>
    obtain ⟨j, hj, rfl, s, F, k, hin, hres, R, hW⟩ := hrel
    by_cases hlt : j < L.length
    · have hltI : (j : Int) < L.length := by omega
      have HS := Lib.hid (R.step Hv.out Ho.out (by omega) (L.getD j (0, [])).1 (L.getD j (0, [])).2)
      have HR := Lib.hid R
      obtain ⟨hMs, hMp⟩ := R.small (by omega)
      have hMl : s.2.length ≤ 1000 := by have := R.few; have := R.made.mlen; omega
      have hrl := HL.out j
      have hwf := HW.out j
      clear R
      obtain ⟨H, M⟩ := s
      obtain ⟨hext, hb5, hb2, hrow⟩ := hin
      simp only at hb5 hrow hMs hMp hMl
      obtain ⟨qm, cm, rfl, hsq, _, _, _⟩ := own_strs_p hrow
      obtain ⟨ad, rfl⟩ := Option.isSome_iff_exists.1 (own_nonil9 hrow hMp)
      obtain ⟨b, off, rfl, hbb, hc⟩ := (Hs.out.ext hext).at j hlt
      obtain ⟨hck0, hck1⟩ := hc j hlt
      clear hc
      generalize L.getD j (0, []) = x at *
      obtain ⟨slot, r⟩ := x
      simp only at hrl hwf hck0 hck1 HS
      have HA1 := Lib.hid (fun w' (e : Ext wr w') => step_any (some ad) cm M.length M H d slot r w' (hsq.ext e) rfl hMs (by omega))
      have HPu := Lib.hid (fun w' (hsq : Strs w' (some ad) M) q c WA (hw : Wrts w' q WA) (hl : WA.length ≤ 100) => Put_any ad q M.length cm WA.length c M WA w' hsq rfl hw rfl (by omega) hl)
      generalize hRr : stepR M H d slot r = Rr at *
      clear hRr
      obtain ⟨G, WA, EA⟩ := Rr
      simp only at HS
      have Hwf := Lib.hid hwf
      have hhb : hb < wr.heap.size := Blk.lt hb5
      have hrbl : rb < wr.heap.size := Blk.lt hres
      have hdl : w.heap.size < wr.heap.size := Blk.lt hb2
      clear hwf
      go_upto_region 5 with (first
        | (refine wpList_op (o := ⟨some 26, _, _, _, _, _⟩) rfl (.tmp 25) rfl b (off + j * 2) (by go_simp) slot r hck0 hck1 ?_)
        | (refine wpList_put rfl 78 (.tmp 12) (.tmp 26) rfl _ #[.int .i64 slot, .string ⟨r.toArray⟩] rfl rfl _ _ (Blk.new1 _ _ _ (by simp)) opSize rfl (op_one slot r) ?_; intro w1 hbo hco))
      refine wp_name (fun w1 => Ext wr w1 ∧ Blk w1 wr.heap.size (.cells #[.int .i64 slot, .string ⟨r.toArray⟩] 78)) ⟨hco.ext (Ext.alloc _ _) (Nat.le_refl _), hbo⟩ ?_
      clear hbo hco hck0 hck1
      rintro w1 ⟨he1, hbo⟩
      have hb51 := hb5.ext he1
      have hb21 := hb2.ext he1
      have hobl : wr.heap.size < w1.heap.size := Blk.lt hbo
      have c0 : w1.cell? ⟨wr.heap.size, 0, none⟩ = some (.int .i64 slot) := Blk.val hbo 0 _ rfl
      have c1 : w1.cell? ⟨wr.heap.size, 1, none⟩ = some (.string ⟨r.toArray⟩) := Blk.val hbo 1 _ rfl
      go_upto_region 6 with (first
        | (refine wpList_hd (o := ⟨some 30, _, _, _, _, _⟩) rfl (.tmp 8) rfl _ rfl H hb51 ?_)
        | (refine wpList_ds (o := ⟨some 31, _, _, _, _, _⟩) rfl (.tmp 2) rfl _ rfl d hb21 ?_)
        | (refine wpList_op (o := ⟨some 32, _, _, _, _, _⟩) rfl (.tmp 12) rfl wr.heap.size 0 rfl slot r c0 c1 ?_)
        | (go_at_call 38; refine (HA1.out _ he1).mono ?_; rintro e w2 h3; obtain ⟨q3, c3, rfl, he3, hw3⟩ := relOut_val rfl h3; clear h3)
        | (refine wpList_put rfl 24 (.tmp 13) (.tmp 34) rfl _ #[.int .i64 G.applied, .int .i64 G.count, .int .i64 G.fin, .int .i64 G.root, .int .i64 G.height, .int .i64 G.splits, .int .i64 G.areas] rfl rfl _ _ (Blk.new1 _ _ _ (by simp)) hdSize rfl (hd_one G) ?_; intro w3 hb3 hc3))
      have he6 : Ext wr w3 := hc3.ext (he1.trans (he3.trans (Ext.alloc _ _))) (he1.trans he3).size
      refine wp_name (fun w6 => Rnd w hb rb w2.heap.size mb d H M ad cm G q3 WA j F w6 ∧ Blk w6 wr.heap.size (.cells #[.int .i64 slot, .string ⟨r.toArray⟩] 78) ∧ hb < w6.heap.size ∧ w.heap.size < w6.heap.size ∧ hb ≠ w2.heap.size)
        ⟨⟨hext.trans he6, hb5.ext he6, hb2.ext he6, own_ext hrow he6, hb3, hw3.ext (hc3.ext (Ext.alloc _ _) (Nat.le_refl _)), hres.ext he6, WantAt.ext hW he6⟩, hc3.blk (Blk.alloc (he3.blk _ _ hbo) _) (by have := he3.size; omega), by have := he6.size; omega, by have := he6.size; omega, by have := (he1.trans he3).size; omega⟩ ?_
      clear hbo hb3 hc3 he3 hw3 he6 he1 hb51 hb21 hobl c0 c1 hb5 hb2 hrow hres hW hext hsq HA1
      rintro w6 ⟨hR6, hbo, hhb6, hwl6, hne6⟩
      generalize w2.heap.size = ab at *
      generalize wr.heap.size = ob at *
      have c0 : w6.cell? ⟨ob, 0, none⟩ = some (.int .i64 slot) := Blk.val hbo 0 _ rfl
      have c1 : w6.cell? ⟨ob, 1, none⟩ = some (.string ⟨r.toArray⟩) := Blk.val hbo 1 _ rfl
      have hobl : ob < w6.heap.size := Blk.lt hbo
      have hab6 : ab < w6.heap.size := Blk.lt hR6.ab
      obtain ⟨v0, hv0⟩ : ∃ v0, (wantF F slot).getD [] = v0 := ⟨_, rfl⟩
      have HV0 := Lib.hid hv0
      clear hv0
      have hEq : ∀ W, (Op.equalIn 10000 24 (.agg #[.int .i64 0, .int .i64 0, .int .i64 0, .int .i64 0, .int .i64 0, .int .i64 0, .int .i64 0]) (.agg #[.int .i64 0, .int .i64 0, .int .i64 0, .int .i64 0, .int .i64 0, .int .i64 0, .int .i64 0])).run Tryd.prog W = .ok true W := fun W => by have := hd_equal Hd.zero Hd.zero W; simpa [Hd.zero] using this
      have hGd := hdGuard
      have hj40 : j ≤ 40 := by omega
      rcases HS.out with ⟨c, hc, hR, hSS, hnone⟩ | ⟨F', k', hE, hWl, hSS, hRan, hkk, hs1, hs2, hy, hln, hwF, huF⟩
      · obtain ⟨rfl, rfl, rfl⟩ : G = Hd.zero ∧ WA = [] ∧ EA = c := by simpa [RelRes.no] using hR
        have hEI : (EA == 0) = false := by simpa using hc
        have hab : Blk w6 ab (.cells #[.int .i64 0, .int .i64 0, .int .i64 0, .int .i64 0, .int .i64 0, .int .i64 0, .int .i64 0] 24) := hR6.ab
        clear hR hc HS
        by_cases hr : r = []
        · have hth : (wantF F slot).isSome = false := by rw [hnone hr]; rfl
          have Hth := Lib.hid hth
          subst hr
          clear hnone hth hSS HPu
          go_upto_region 7 with (at_lookup; refine wpList_want_oks wantTy rfl _ _ rfl rfl hR6.map slot rfl Hwf.out v0 false HV0.out Hth.out ?_)
          go_upto_region 12 with (fail)
          go_wp2_with (first
            | (refine wpList_row (o := ⟨some 87, _, _, _, _, _⟩) rfl 24 (.tmp 13) rfl _ rfl _ #[.int .i64 0, .int .i64 0, .int .i64 0, .int .i64 0, .int .i64 0, .int .i64 0, .int .i64 0] _ hab hdDesc rfl hdSize ?_)
            | (refine wpList_bld (o := ⟨some 88, _, _, _, _, _⟩) rfl 24 #[] rfl [] rfl _ hdBuilt9z ?_))
          go_roundw
          case rel => exact ⟨j + 1, by omega, by go_num, _, F, k, ⟨hR6.ext, hR6.hb, hR6.ds, hR6.row⟩, hR6.rb, HR.out.mono (by omega), WantAt.mono hR6.map (by omega)⟩
          case measure => simp [intOf]; omega
        · have hrI : (r == []) = false := by simpa using hr
          have hrE : r.isEmpty = false := by simpa using hr
          obtain ⟨th, hth⟩ : ∃ th, (wantF F slot).isSome = th := ⟨_, rfl⟩
          have Hth := Lib.hid hth
          clear hnone hth hSS HPu
          go_upto_region 7 with (at_lookup; refine wpList_want_oks wantTy rfl _ _ rfl rfl hR6.map slot rfl Hwf.out v0 th HV0.out Hth.out ?_)
          go_upto_region 12 with (fail)
          go_wp2_with (first
            | (refine wpList_row (o := ⟨some 87, _, _, _, _, _⟩) rfl 24 (.tmp 13) rfl _ rfl _ #[.int .i64 0, .int .i64 0, .int .i64 0, .int .i64 0, .int .i64 0, .int .i64 0, .int .i64 0] _ hab hdDesc rfl hdSize ?_)
            | (refine wpList_bld (o := ⟨some 88, _, _, _, _, _⟩) rfl 24 #[] rfl [] rfl _ hdBuilt9z ?_))
          go_roundw
          case rel => exact ⟨j + 1, by omega, by go_num, _, F, k, ⟨hR6.ext, hR6.hb, hR6.ds, hR6.row⟩, hR6.rb, HR.out.mono (by omega), WantAt.mono hR6.map (by omega)⟩
          case measure => simp [intOf]; omega
      · subst hE
        have Hsm := Lib.hid hRan
        rw [hSS] at hRan
        have HRan := Lib.hid hRan
        have cd : w6.cell? ⟨w.heap.size, 3, none⟩ = some (.int .i64 d.length) := Blk.val hR6.ds 3 _ rfl
        have HwF := Lib.hid hwF
        have HuF := Lib.hid huF
        have hWl2 : decide ((9 : Int) < (WA.length : Int)) = false := decide_eq_false (by omega)
        clear hwF huF hSS hRan HS Hsm hs1 hs2 hkk
        by_cases hr : r = []
        · have Hth := Lib.hid (hy hr)
          subst hr
          clear hy hln
          go_upto_region 7 with (at_lookup; refine wpList_want_oks wantTy rfl _ _ rfl rfl hR6.map slot rfl Hwf.out v0 true HV0.out Hth.out ?_)
          go_upto_region 14 with (fail)
          go_upto_region 17 with (first
            | (at_mapUpdate; refine wpList_want_put wantTy rfl _ _ _ rfl rfl hR6.map (by unfold maxLen; omega) slot rfl Hwf.out [] rfl (by simp) ?_; intro w7 hW7 hc7; have hbo7 := hc7.blk hbo (want_cells hR6.map hbo); have d0 : w7.cell? ⟨ob, 0, none⟩ = some (.int .i64 slot) := Blk.val hbo7 0 _ rfl; have d1 : w7.cell? ⟨ob, 1, none⟩ = some (.string ⟨#[]⟩) := Blk.val hbo7 1 _ rfl; have hobl7 : ob < w7.heap.size := Blk.lt hbo7)
            | (at_delete; refine wpList_want_del wantTy rfl _ _ rfl rfl hW7 slot rfl Hwf.out ?_; intro w8 hW8 hc8))
          refine wp_name (fun w9 => Rnd w hb rb ab mb d H M ad cm G q3 WA (j + 1) F' w9) (hR6.chg (Chg.trans9 hc7 hc8) hmb (WantAt.as hW8 (by rw [HwF.out, updW_twice]; simp) (by rw [HuF.out, updW_at]; simp [Hth.out]))) ?_
          rintro w9 hR9
          have hsq9 := own_strs_at hR9.row
          have hw9 := hR9.wr
          have Hab9 : Hid (HdAt w9 ab G) := Lib.hid hR9.ab
          have HR9 := Lib.hid hR9
          have hab9 : ab < w9.heap.size := Blk.lt hR9.ab
          have HP9 := Lib.hid (fun w' (e : Ext w9 w') => (HPu.out w' (hsq9.ext e) q3 c3 WA (hw9.ext e) (by omega)).mono (show ∀ (e' : Ending) (w'' : World), (Ext w' w'' ∧ ∃ v, e' = .returned v ∧ w''.ownsRow w'.heap.size 9 1 v (putsP M WA).length ((putsP M WA).map fun s => .string ⟨s.toArray⟩)) → (∃ v, e' = .returned v ∧ Ext w' w'' ∧ RowsF 9 w.heap.size 1 (putsP M WA).length ((putsP M WA).map fun s => .string ⟨s.toArray⟩) v w'') from fun e' w'' ⟨h1, v, h2, h3⟩ => ⟨v, h2, h1, by obtain ⟨q2, c2, rfl⟩ := own_slice h3; exact ⟨q2, c2, rfl, own_le h3 (hR9.ext.trans e).size⟩⟩))
          clear hsq9 hw9 hR9 hR6 hbo c0 c1 hobl hab6 cd hWl2 hbo7 d0 d1 hobl7 hW7 hW8 hc7 hc8
          refine wp_region_mk 4 (Ext.refl w9) (by kernel_rfl) (by kernel_rfl) (by kernel_rfl) ?_
          simp only [List.take_succ_cons, List.take_zero, List.take_nil, List.drop_succ_cons, List.drop_zero, List.drop_nil, List.map_cons, List.map_nil]
          repeat (first
            | (refine wpML_det (o := ⟨some 105, _, _, _, _, _⟩) (v := .agg #[.int .i64 G.applied, .int .i64 G.count, .int .i64 G.fin, .int .i64 G.root, .int .i64 G.height, .int .i64 G.splits, .int .i64 G.areas]) rfl ?_ ?_
               · intro a w' he hr K hK
                 simp [Reads, Oper.looksAt, Op.operands, factAt, Is] at hr
                 exact wp_load_row 24 (.tmp 13) rfl (ab) (by go_simp) _ _ _ _ (he.blk _ _ Hab9.out) hdDesc rfl hdSize (hK _ (Ext.refl _))
               simp only [setL, List.set_cons_succ, List.set_cons_zero])
            | (refine wpML_move _ _ rfl (by first | exact .inl rfl | exact .inr rfl) rfl (by first | exact Is.stable _ | exact AppF.stable _ | exact WrF.stable _ | exact PtrF.stable _ _ | exact IfcF.stable (Fresh.stable _ _ _) _ | exact PairF.stable (RowF.stable _ _ _ _) _ | exact RowF.stable _ _ _ _ | exact Fresh.stable _ _ _) ?_
               simp only [setL, List.set_cons_succ, List.set_cons_zero, List.getD_cons_succ, List.getD_cons_zero])
            | (refine wpML_moveC _ rfl (by first | exact .inl rfl | exact .inr rfl) ?_
               simp only [setL, List.set_cons_succ, List.set_cons_zero])
            | (apply wpML_det rfl
               · intro a w' he hr K hK
                 simp [Reads, Oper.looksAt, Op.operands, Call.operands, factAt, Is] at hr
                 have hx := he.cell
                 go_simp
                 try go_bits
                 try (rw [if_neg (by omega)]; go_simp)
                 first
                   | exact hK _ (Ext.refl _)
               simp only [setL, List.set_cons_succ, List.set_cons_zero])
            | (refine wpML_fact (o := ⟨some 108, _, _, _, _, _⟩) (RowsF 9 w.heap.size 1 (putsP M WA).length ((putsP M WA).map fun s => .string ⟨s.toArray⟩)) (RowsF.stable _ _ _ _ _) rfl ?_ ?_
               · intro a w' he hr K hK
                 simp [Reads, Oper.looksAt, Op.operands, Call.operands, factAt, Is] at hr
                 go_simp
                 refine ((HP9.out w' he)).mono ?_
                 rintro e w'' ⟨v, rfl, he', hf⟩
                 exact hK _ _ he' hf
               simp only [setL, List.set_cons_succ, List.set_cons_zero])
            | (apply wpML_det rfl
               · intro a w' he hr K hK
                 simp [Reads, Oper.looksAt, Op.operands, Call.operands, factAt, Fresh] at hr
                 obtain ⟨b, hr1, hr2⟩ := hr
                 go_simp
                 exact hK _ (Ext.refl _)
               simp only [setL, List.set_cons_succ, List.set_cons_zero]))
          intro w2 he2
          repeat (first | with_reducible refine rest_is _ _ _ _ ?_ | (with_reducible refine rest_fact _ _ _ _ ?_; intro _ _) | with_reducible refine rest_end _ _ ?_)
          simp only [List.reverse_cons, List.reverse_nil, List.nil_append, List.cons_append]
          rename_i x108 h108
          obtain ⟨q8, c8, rfl, hown8⟩ := h108
          have hb9 : HdAt w2 hb H := HR9.out.hb.ext he2
          have Hown8 := Lib.hid hown8
          clear hown8
          go_wp2_with (first | (refine wpList_put (o := ⟨none, _, _, _, _, _⟩) rfl 24 (.tmp 8) (.tmp 105) rfl _ #[.int .i64 G.applied, .int .i64 G.count, .int .i64 G.fin, .int .i64 G.root, .int .i64 G.height, .int .i64 G.splits, .int .i64 G.areas] rfl rfl _ _ hb9 hdSize rfl (hd_one G) ?_; intro wB hbB hcB))
          go_roundw
          case rel => exact ⟨j + 1, by omega, by go_num, (G, putsP M WA), F', k', ⟨hcB.ext (HR9.out.ext.trans he2) (by omega), hbB, hcB.blk (HR9.out.ds.ext he2) (by omega), own_chgT Hown8.out (by decide) hb9 hcB⟩, hcB.blk (HR9.out.rb.ext he2) hrh, HRan.out, WantAt.chg (WantAt.ext HR9.out.map he2) hcB (fun e => WantAt.not_cells (WantAt.ext HR9.out.map he2) hb9 e)⟩
          case measure => simp [intOf]; omega
        · have hrI : (r == []) = false := by simpa using hr
          have hrE : r.isEmpty = false := by simpa using hr
          have hlr := hln hr
          have hlI : ((r.length : Int) == d.length) = true := by simpa using hlr
          obtain ⟨th, hth⟩ : ∃ th, (wantF F slot).isSome = th := ⟨_, rfl⟩
          have Hth := Lib.hid hth
          clear hy hln hth
          go_upto_region 7 with (at_lookup; refine wpList_want_oks wantTy rfl _ _ rfl rfl hR6.map slot rfl Hwf.out v0 th HV0.out Hth.out ?_)
          go_upto_region 14 with (fail)
          clear hlr hlI
          go_upto_region 17 with (first
            | (at_mapUpdate; refine wpList_want_put wantTy rfl _ _ _ rfl rfl hR6.map (by unfold maxLen; omega) slot rfl Hwf.out r rfl (by unfold maxLen; omega) ?_; intro w7 hW7 hc7; have hbo7 := hc7.blk hbo (want_cells hR6.map hbo); have d0 : w7.cell? ⟨ob, 0, none⟩ = some (.int .i64 slot) := Blk.val hbo7 0 _ rfl; have d1 : w7.cell? ⟨ob, 1, none⟩ = some (.string ⟨r.toArray⟩) := Blk.val hbo7 1 _ rfl; have hobl7 : ob < w7.heap.size := Blk.lt hbo7))
          refine wp_name (fun w9 => Rnd w hb rb ab mb d H M ad cm G q3 WA (j + 1) F' w9) (hR6.chg hc7 hmb (WantAt.as hW7 (by rw [HwF.out, if_neg hr]) (by rw [HuF.out, if_neg hr]))) ?_
          rintro w9 hR9
          have hsq9 := own_strs_at hR9.row
          have hw9 := hR9.wr
          have Hab9 : Hid (HdAt w9 ab G) := Lib.hid hR9.ab
          have HR9 := Lib.hid hR9
          have hab9 : ab < w9.heap.size := Blk.lt hR9.ab
          have HP9 := Lib.hid (fun w' (e : Ext w9 w') => (HPu.out w' (hsq9.ext e) q3 c3 WA (hw9.ext e) (by omega)).mono (show ∀ (e' : Ending) (w'' : World), (Ext w' w'' ∧ ∃ v, e' = .returned v ∧ w''.ownsRow w'.heap.size 9 1 v (putsP M WA).length ((putsP M WA).map fun s => .string ⟨s.toArray⟩)) → (∃ v, e' = .returned v ∧ Ext w' w'' ∧ RowsF 9 w.heap.size 1 (putsP M WA).length ((putsP M WA).map fun s => .string ⟨s.toArray⟩) v w'') from fun e' w'' ⟨h1, v, h2, h3⟩ => ⟨v, h2, h1, by obtain ⟨q2, c2, rfl⟩ := own_slice h3; exact ⟨q2, c2, rfl, own_le h3 (hR9.ext.trans e).size⟩⟩))
          clear hsq9 hw9 hR9 hR6 hbo c0 c1 hobl hab6 cd hWl2 hbo7 d0 d1 hobl7 hW7 hc7
          refine wp_region_mk 4 (Ext.refl w9) (by kernel_rfl) (by kernel_rfl) (by kernel_rfl) ?_
          simp only [List.take_succ_cons, List.take_zero, List.take_nil, List.drop_succ_cons, List.drop_zero, List.drop_nil, List.map_cons, List.map_nil]
          repeat (first
            | (refine wpML_det (o := ⟨some 105, _, _, _, _, _⟩) (v := .agg #[.int .i64 G.applied, .int .i64 G.count, .int .i64 G.fin, .int .i64 G.root, .int .i64 G.height, .int .i64 G.splits, .int .i64 G.areas]) rfl ?_ ?_
               · intro a w' he hr K hK
                 simp [Reads, Oper.looksAt, Op.operands, factAt, Is] at hr
                 exact wp_load_row 24 (.tmp 13) rfl (ab) (by go_simp) _ _ _ _ (he.blk _ _ Hab9.out) hdDesc rfl hdSize (hK _ (Ext.refl _))
               simp only [setL, List.set_cons_succ, List.set_cons_zero])
            | (refine wpML_move _ _ rfl (by first | exact .inl rfl | exact .inr rfl) rfl (by first | exact Is.stable _ | exact AppF.stable _ | exact WrF.stable _ | exact PtrF.stable _ _ | exact IfcF.stable (Fresh.stable _ _ _) _ | exact PairF.stable (RowF.stable _ _ _ _) _ | exact RowF.stable _ _ _ _ | exact Fresh.stable _ _ _) ?_
               simp only [setL, List.set_cons_succ, List.set_cons_zero, List.getD_cons_succ, List.getD_cons_zero])
            | (refine wpML_moveC _ rfl (by first | exact .inl rfl | exact .inr rfl) ?_
               simp only [setL, List.set_cons_succ, List.set_cons_zero])
            | (apply wpML_det rfl
               · intro a w' he hr K hK
                 simp [Reads, Oper.looksAt, Op.operands, Call.operands, factAt, Is] at hr
                 have hx := he.cell
                 go_simp
                 try go_bits
                 try (rw [if_neg (by omega)]; go_simp)
                 first
                   | exact hK _ (Ext.refl _)
               simp only [setL, List.set_cons_succ, List.set_cons_zero])
            | (refine wpML_fact (o := ⟨some 108, _, _, _, _, _⟩) (RowsF 9 w.heap.size 1 (putsP M WA).length ((putsP M WA).map fun s => .string ⟨s.toArray⟩)) (RowsF.stable _ _ _ _ _) rfl ?_ ?_
               · intro a w' he hr K hK
                 simp [Reads, Oper.looksAt, Op.operands, Call.operands, factAt, Is] at hr
                 go_simp
                 refine ((HP9.out w' he)).mono ?_
                 rintro e w'' ⟨v, rfl, he', hf⟩
                 exact hK _ _ he' hf
               simp only [setL, List.set_cons_succ, List.set_cons_zero])
            | (apply wpML_det rfl
               · intro a w' he hr K hK
                 simp [Reads, Oper.looksAt, Op.operands, Call.operands, factAt, Fresh] at hr
                 obtain ⟨b, hr1, hr2⟩ := hr
                 go_simp
                 exact hK _ (Ext.refl _)
               simp only [setL, List.set_cons_succ, List.set_cons_zero]))
          intro w2 he2
          repeat (first | with_reducible refine rest_is _ _ _ _ ?_ | (with_reducible refine rest_fact _ _ _ _ ?_; intro _ _) | with_reducible refine rest_end _ _ ?_)
          simp only [List.reverse_cons, List.reverse_nil, List.nil_append, List.cons_append]
          rename_i x108 h108
          obtain ⟨q8, c8, rfl, hown8⟩ := h108
          have hb9 : HdAt w2 hb H := HR9.out.hb.ext he2
          have Hown8 := Lib.hid hown8
          clear hown8
          go_wp2_with (first | (refine wpList_put (o := ⟨none, _, _, _, _, _⟩) rfl 24 (.tmp 8) (.tmp 105) rfl _ #[.int .i64 G.applied, .int .i64 G.count, .int .i64 G.fin, .int .i64 G.root, .int .i64 G.height, .int .i64 G.splits, .int .i64 G.areas] rfl rfl _ _ hb9 hdSize rfl (hd_one G) ?_; intro wB hbB hcB))
          go_roundw
          case rel => exact ⟨j + 1, by omega, by go_num, (G, putsP M WA), F', k', ⟨hcB.ext (HR9.out.ext.trans he2) (by omega), hbB, hcB.blk (HR9.out.ds.ext he2) (by omega), own_chgT Hown8.out (by decide) hb9 hcB⟩, hcB.blk (HR9.out.rb.ext he2) hrh, HRan.out, WantAt.chg (WantAt.ext HR9.out.map he2) hcB (fun e => WantAt.not_cells (WantAt.ext HR9.out.map he2) hb9 e)⟩
          case measure => simp [intOf]; omega
    · have hltI : decide ((j : Int) < L.length) = false := decide_eq_false (by omega)
      obtain rfl : j = L.length := by omega
      obtain ⟨H, M⟩ := s
      obtain ⟨hext, hb5, hb2, hrow⟩ := hin
      simp only at hb5 hrow
      obtain ⟨qm, cm, rfl, hsq, _, _, _⟩ := own_strs_p hrow
      have hhb : hb < wr.heap.size := Blk.lt hb5
      have HRl := Lib.hid R
      clear R
      go_wp2_with (first
        | (refine wpList_hd (o := ⟨some 110, _, _, _, _, _⟩) rfl (.tmp 8) rfl _ rfl H hb5 ?_)
        | (refine wpList_put (o := ⟨none, _, _, _, _, _⟩) rfl 24 (.tmp 4) (.tmp 110) rfl _ #[.int .i64 H.applied, .int .i64 H.count, .int .i64 H.fin, .int .i64 H.root, .int .i64 H.height, .int .i64 H.splits, .int .i64 H.areas] rfl rfl _ _ hres hdSize rfl (hd_one H) ?_; intro wB hbB hcB))
      exact bodyPost_ret (results_row3 Tryd.results43 _ _ _ _ _ _ rfl hbB hdDesc rfl hdSize) rfl ⟨hcB.ext hext (by omega), H, M, _, _, _, _, mb, rfl, HRl.out, own_strs_at (own_chgT hrow (by decide) hres hcB), hmb, WantAt.chg hW hcB (fun e => WantAt.not_cells hW hres e)⟩
end Go.Proofs.YtjgdhlpnpihkdaaDoor
