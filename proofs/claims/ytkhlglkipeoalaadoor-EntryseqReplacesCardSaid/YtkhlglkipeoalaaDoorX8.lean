/- The walk of the program's add. -/
import Derived.Test.YtkhlglkipeoalaaDoorX7
import Derived.Test.YtkhlglkipeoalaaDoorPB
import Derived.Lib.Builder
import Derived.Deep.RegionHeld3
set_option linter.unusedSimpArgs false
set_option linter.unusedVariables false
namespace Go.Proofs.YtkhlglkipeoalaaDoor
open Go.RowKit Dsd

/-- The end of a cluster, in a block of its own. -/
def EnAt (W : World) (b : Nat) (p : Option Addr) (n cap : Nat) (h : Hd) (d : DS) (v : Value) : Prop := Blk W b (.cells #[.iface 29 (.slice p n cap), .int .i64 h.applied, .int .i64 h.count, .int .i64 h.fin, .int .i64 h.root, .int .i64 h.height, .int .i64 h.splits, .int .i64 h.areas, .int .i64 d.id, .int .i64 d.org, .int .i64 d.format, .int .i64 d.length, .int .i64 d.block, .int .i64 d.keyAt, .int .i64 d.keyLength, .int .i64 d.interval, .int .i64 d.area, .int .i64 d.freeInterval, .int .i64 d.freeArea, .int .i64 d.base, .int .i64 d.altAt, .int .i64 d.altLength, .bool d.unique, .int .i64 d.cls, .string ⟨d.volume.toArray⟩, .string ⟨d.owner.toArray⟩, .int .i64 d.created, .int .i64 d.expires, .bool d.archived, v] 82)
theorem EnAt.ext {W W' : World} {b : Nat} {p : Option Addr} {n cap : Nat} {h : Hd} {d : DS} {v : Value} (x : EnAt W b p n cap h d v) (e : Ext W W') : EnAt W' b p n cap h d v := e.blk _ _ x
/-- Nothing that was there has turned but block xb and block g. -/
structure Two (xb : Nat) (g : Option Nat) (w w' : World) : Prop where
  os : w'.os = w.os
  tape : w'.tape = w.tape
  output : w'.output = w.output
  size : w.heap.size ≤ w'.heap.size
  block : ∀ k, k < w.heap.size → k ≠ xb → some k ≠ g → w'.heap[k]? = w.heap[k]?
theorem Two.of_ext {xb : Nat} {g : Option Nat} {w w' : World} (h : Ext w w') : Two xb g w w' := ⟨h.os, h.tape, h.output, h.size, fun k hk _ _ => h.block k hk⟩
theorem Two.trans {xb : Nat} {g : Option Nat} {a b c : World} (h : Two xb g a b) (k : Two xb g b c) : Two xb g a c :=
  ⟨k.os.trans h.os, k.tape.trans h.tape, k.output.trans h.output, Nat.le_trans h.size k.size, fun i hi h1 h2 => (k.block i (Nat.lt_of_lt_of_le hi h.size) h1 h2).trans (h.block i hi h1 h2)⟩
theorem Two.chg {xb : Nat} {g : Option Nat} {a b c : World} (h : Two xb g a b) (k : Chg xb b c) : Two xb g a c :=
  ⟨k.os.trans h.os, k.tape.trans h.tape, k.output.trans h.output, by rw [k.size]; exact h.size, fun i hi h1 h2 => (k.block i h1).trans (h.block i hi h1 h2)⟩
theorem Two.grown {xb : Nat} {g row : Option Nat} {a b c : World} (h : Two xb g a b) (k : b.grownBy c row) (hr : row = none ∨ row = g ∨ ∃ i, row = some i ∧ a.heap.size ≤ i) : Two xb g a c := by
  refine ⟨k.os.trans h.os, k.tape.trans h.tape, k.output.trans h.output, Nat.le_trans h.size k.size, fun i hi h1 h2 => (k.block i (Nat.lt_of_lt_of_le hi h.size) ?_).trans (h.block i hi h1 h2)⟩
  rcases hr with hr | hr | ⟨j, hr, hj⟩
  · rw [hr]; simp
  · rw [hr]; exact h2
  · rw [hr]; intro e; simp at e; omega
theorem Two.blk {xb : Nat} {g : Option Nat} {a b : World} (h : Two xb g a b) {k : Nat} {o : Obj} (hb : Blk a k o) (h1 : k ≠ xb) (h2 : some k ≠ g) : Blk b k o := (h.block k (Blk.lt hb) h1 h2).trans hb
/-- What add hands back. -/
def AddOut (B xb : Nat) (p : Option Addr) (n cap : Nat) (h : Hd) (d : DS) (v0 : Value) (L : List (List UInt8)) (r : List UInt8) (W : World) (e : Ending) (W' : World) : Prop :=
  e = .returned (.int .i64 (addAt d.interval L h.fin r)) ∧ Below B W W' ∧ Two xb v0.ownBlock W W' ∧ ∃ v, EnAt W' xb p n cap { h with count := h.count + 1, fin := (addOf d.interval L h.fin r).2 } d v ∧
    W'.ownsRow B 9 1 v (addOf d.interval L h.fin r).1.length ((addOf d.interval L h.fin r).1.map fun s => .string ⟨s.toArray⟩)

theorem Fits_f (p : Option Addr) (cap n : Nat) (L : List (List UInt8)) (size : Int) (w : World) (hs : Strs w p L) (hn : L.length = n) (hcap : n ≤ cap) (hcm : cap ≤ maxLen) (hm : Small L) :
    Calls Tryd.prog 53 #[.int .i64 size, .slice p n cap] w fun e w' => e = .returned (.bool (fitsB size L)) ∧ Ext w w' := Fits_any p cap n L size w hs hn hcap hcm hm
theorem own_snoc {w : World} {base : Nat} {e : TypeId} {v : Value} {L : List (List UInt8)} {r : List UInt8} (h : w.ownsRow base e 1 v (L.length + 1) ((L.map fun s => .string ⟨s.toArray⟩) ++ [.string ⟨r.toArray⟩])) :
    ∃ q c, v = .slice q (L.length + 1) c ∧ Strs w q (L ++ [r]) ∧ L.length + 1 ≤ c ∧ c ≤ maxLen := by
  obtain ⟨q, c, h1, h2, h3, h4⟩ := own_strs2 (L := L ++ [r]) (by simpa using h)
  exact ⟨q, c, by simpa using h1, h2, by simpa using h3, h4⟩
theorem en_ne {w : World} {B : Nat} {v : Value} {k : Nat} {xs : List Value} {b : Nat} {p : Option Addr} {n cap : Nat} {h : Hd} {d : DS} {u : Value} (ho : w.ownsRow B 9 1 v k xs) (hx : EnAt w b p n cap h d u) : v.ownBlock ≠ some b :=
  Lib.ownBlock_ne (T := 82) (fr := (0, 0)) ho hx (by decide)
theorem en_grown {w w' : World} {B : Nat} {v : Value} {k : Nat} {xs : List Value} {b : Nat} {p : Option Addr} {n cap : Nat} {h : Hd} {d : DS} {u : Value} (ho : w.ownsRow B 9 1 v k xs) (hx : EnAt w b p n cap h d u) (hg : w.grownBy w' v.ownBlock) : EnAt w' b p n cap h d u :=
  (hg.block b (Blk.lt hx) (Ne.symm (en_ne ho hx))).trans hx
/-- Is the last page left? -/
def resetB (size fin : Int) (L : List (List UInt8)) (r : List UInt8) : Bool := decide (fin = 0) || !fitsB size (L ++ [r])
def keptL (size fin : Int) (L : List (List UInt8)) (r : List UInt8) : List (List UInt8) := if resetB size fin L r then [] else L
def finL (size fin : Int) (L : List (List UInt8)) (r : List UInt8) : Int := if resetB size fin L r then fin + 1 else fin
theorem addOf_kept (size fin : Int) (L : List (List UInt8)) (r : List UInt8) : addOf size L fin r = (keptL size fin L r ++ [r], finL size fin L r) ∧ addAt size L fin r = finL size fin L r * size + (sumLen (keptL size fin L r) : Int) := by
  unfold keptL finL resetB
  by_cases h : fin = 0 ∨ fitsB size (L ++ [r]) = false
  · have hb : (decide (fin = 0) || !fitsB size (L ++ [r])) = true := by simpa using h
    obtain ⟨h1, h2⟩ := addOf_yes h
    rw [h1, h2, hb]
    simp [sumLen]
  · have hb : (decide (fin = 0) || !fitsB size (L ++ [r])) = false := by
      simp at h ⊢; exact h
    obtain ⟨h1, h2⟩ := addOf_no (size := size) (fin := fin) (last := L) (r := r) (fun e => h (.inl e)) (by simp at h; exact h.2)
    rw [h1, h2, hb]
    simp
theorem own_not {w : World} {base : Nat} {e : TypeId} {size : Nat} {v : Value} {n : Nat} {xs : List Value} (h : w.ownsRow base e size v n xs) {b : Nat} (hb : b < base) : v.ownBlock ≠ some b := fun he => by
  have := (h.lt b he).1; omega

theorem addOut_mk {B xb : Nat} {p : Option Addr} {n cap : Nat} {h : Hd} {d : DS} {L KL : List (List UInt8)} {r : List UInt8} {FL : Int} {W W' : World} {at' : Int} {v : Value} (hk : addOf d.interval L h.fin r = (KL ++ [r], FL) ∧ addAt d.interval L h.fin r = FL * d.interval + (sumLen KL : Int))
    {v0 : Value} (ha : at' = FL * d.interval + (sumLen KL : Int)) (hb : Below B W W') (ht : Two xb v0.ownBlock W W') (hx : EnAt W' xb p n cap { h with count := h.count + 1, fin := FL } d v) (ho : W'.ownsRow B 9 1 v (KL.length + 1) ((KL.map fun s => .string ⟨s.toArray⟩) ++ [.string ⟨r.toArray⟩])) :
    AddOut B xb p n cap h d v0 L r W (.returned (.int .i64 at')) W' := by
  unfold AddOut
  rw [hk.1, hk.2, ha]
  exact ⟨rfl, hb, ht, v, hx, by simpa using ho⟩
theorem sumLen_le6 (L : List (List UInt8)) (h : ∀ s ∈ L, s.length ≤ 1000000) : sumLen L ≤ L.length * 1000000 := by
  induction L with
  | nil => simp [sumLen]
  | cons x L ih =>
    have h1 := h x (by simp)
    have h2 := ih (fun s hs => h s (by simp [hs]))
    rw [sumLen_cons, List.length_cons]; omega
theorem sumLen_take6 (L : List (List UInt8)) (k : Nat) (h : k < L.length) : sumLen (L.take (k + 1)) = sumLen (L.take k) + (L.getD k []).length := by
  rw [List.take_succ_eq_append_getElem h, sumLen_append]
  simp [sumLen, List.getD, h]
theorem own_setRow {w : World} {base : Nat} {e : TypeId} {size : Nat} {v : Value} {n : Nat} {xs : List Value} (h : w.ownsRow base e size v n xs) (b i : Nat) (u : Value) (hb : v.ownBlock ≠ some b) : (w.setCell ⟨b, i, none⟩ u).ownsRow base e size v n xs := by
  have c : Chg b w (w.setCell ⟨b, i, none⟩ u) := Chg.setCell
  refine h.kept (row := some b) ⟨c.os, c.tape, c.output, by rw [c.size]; exact Nat.le_refl _, fun k _ hk => c.block k (fun e => hk (by rw [e]))⟩ ?_
  exact .inr hb

set_option maxRecDepth 100000 in
set_option maxHeartbeats 4000000 in
theorem add_any (B xb : Nat) (p : Option Addr) (n cap : Nat) (h : Hd) (d : DS) (v : Value) (L : List (List UInt8)) (r : List UInt8) (hB : B ≤ xb) (W : World) (hx : EnAt W xb p n cap h d v) (hown : W.ownsRow B 9 1 v L.length (L.map fun s => .string ⟨s.toArray⟩))
    (hsm : Small L) (hr : r.length ≤ 1000000) (hL : L.length ≤ 600) (hf0 : 0 ≤ h.fin) (hf1 : h.fin ≤ 20000000) (hc0 : 0 ≤ h.count) (hc1 : h.count ≤ 20000000) (hs0 : 0 ≤ d.interval) (hs1 : d.interval ≤ 512) :
    Calls Tryd.prog 38 #[.pointer (some ⟨xb, 0, none⟩), .string ⟨r.toArray⟩] W (AddOut B xb p n cap h d v L r W) := by
  obtain ⟨q, k, rfl⟩ := own_slice hown
  have Hx := Lib.hid hx
  have Hown := Lib.hid hown
  have c3 : W.cell? ⟨xb, 3, none⟩ = some (.int .i64 h.fin) := Blk.val hx 3 _ rfl
  have c15 : W.cell? ⟨xb, 15, none⟩ = some (.int .i64 d.interval) := Blk.val hx 15 _ rfl
  have c29 : W.cell? ⟨xb, 29, none⟩ = some (.slice q L.length k) := Blk.val hx 29 _ rfl
  have hxl : xb < W.heap.size := Blk.lt hx
  have hsq : Strs W q L := by
    obtain ⟨q', k', he, hq, _⟩ := own_strs2 hown
    simp at he; obtain ⟨rfl, rfl⟩ := he; exact hq
  have hpn : q = none → L.length = 0 := fun e => by
    subst e
    obtain ⟨hl, ⟨h1, h2⟩ | ⟨g, cap, cur, h1, _⟩⟩ := hown
    · exact h2
    · cases h1
  have Hcl := Lib.hid (fun W' (e : Ext W W') => Clone_strs q L.length k L W' (hsq.ext e) rfl (by omega) hpn)
  have HSMR : Hid (Small (L ++ [r])) := Lib.hid ⟨by simp; omega, fun s hs => by rw [List.mem_append] at hs; rcases hs with hs | hs; exact hsm.2 s hs; simp at hs; subst hs; exact hr⟩
  have HK := Lib.hid (addOf_kept d.interval h.fin L r)
  have HRS : Hid (resetB d.interval h.fin L r = (decide (h.fin = 0) || !fitsB d.interval (L ++ [r]))) := Lib.hid rfl
  have HKL : Hid (keptL d.interval h.fin L r = if resetB d.interval h.fin L r then [] else L) := Lib.hid rfl
  have HFL : Hid (finL d.interval h.fin L r = if resetB d.interval h.fin L r then h.fin + 1 else h.fin) := Lib.hid rfl
  have hfl : 0 ≤ finL d.interval h.fin L r ∧ finL d.interval h.fin L r ≤ 20000001 := by unfold finL; split <;> omega
  have Hsm := Lib.hid hsm
  generalize resetB d.interval h.fin L r = rst at *
  generalize keptL d.interval h.fin L r = KL at *
  generalize finL d.interval h.fin L r = FL at *
  generalize hft : fitsB d.interval (L ++ [r]) = ft at *
  have HFT := Lib.hid hft
  clear hx hown hsq hpn hft hsm
  go_enter Tryd.func38, Tryd.ntmps38
  go_upto_region 1 with (fail)
  go_cut [32] (fun s wx => s = .bool rst ∧ Ext W wx)
  case first =>
    by_cases h0 : h.fin = 0
    · have hrs : rst = true := by rw [HRS.out]; simp [h0]
      subst hrs
      have h0I : (h.fin == 0) = true := by simp [h0]
      clear h0
      go_quiet (fail)
      go_wp2_with fail
      go_meet
      exact ⟨rfl, Ext.drewN _ _⟩
    · have hrs : rst = !ft := by rw [HRS.out]; simp [h0]
      subst hrs
      have h0I : (h.fin == 0) = false := by simpa using h0
      clear h0
      go_region_held3 (fun w' => w'.cell? ⟨xb, 3, none⟩ = some (.int .i64 h.fin) ∧ w'.cell? ⟨xb, 15, none⟩ = some (.int .i64 d.interval) ∧ w'.cell? ⟨xb, 29, none⟩ = some (.slice q L.length k))
        (first
          | exact ⟨(hE3.cell xb 3 hxl).trans c3, (hE3.cell xb 15 hxl).trans c15, (hE3.cell xb 29 hxl).trans c29⟩
          | exact ⟨(hE2.cell xb 3 hxl).trans c3, (hE2.cell xb 15 hxl).trans c15, (hE2.cell xb 29 hxl).trans c29⟩
          | exact ⟨(hE1.cell xb 3 hxl).trans c3, (hE1.cell xb 15 hxl).trans c15, (hE1.cell xb 29 hxl).trans c29⟩
          | go_keep)
        (first
          | (go_at_call 54; refine (Hcl.out _ (by repeat (first | exact Ext.refl _ | exact Ext.drew _ | exact Ext.alloc _ _ | refine Ext.trans ?_ (Ext.alloc _ _) | refine Ext.trans ?_ (Ext.drew _)))).mono ?_; rintro e w1 ⟨he1, q1, k1, rfl, hown1⟩; have hE1 := Ext.trans (show Ext W _ from (by repeat (first | exact Ext.refl _ | exact Ext.drew _ | exact Ext.alloc _ _ | refine Ext.trans ?_ (Ext.alloc _ _) | refine Ext.trans ?_ (Ext.drew _)))) he1; have hownA := own_le hown1 (show W.heap.size ≤ _ from by simp); have hz1 := hE1.size; clear hown1)
          | (refine wp_app (w := w1.alloc (.cells #[.string ⟨r.toArray⟩] 9)) (.tmp 26) (.tmp 28) 24 9 rfl W.heap.size (.string ByteArray.empty) 1 16 Tryd.underlying24 infoStr rfl (by decide) _ L.length _ rfl (own_ext hownA (Ext.alloc _ _)) w1.heap.size [.string ⟨r.toArray⟩] rfl (Blk.new w1 _) rfl (by intro u hu; simp at hu; subst hu; rfl) (by omega) (by decide) (by simp; omega) ?_; intro v2 w2 hown2 hgr2; have hE2 := Ext.trans' (Ext.trans hE1 (Ext.alloc _ _)) (Below.of_grown (B := W.heap.size) hgr2 (own_ext hownA (Ext.alloc _ _)) (Nat.le_refl _) (by simp; omega)); have hz2 := hE2.size; obtain ⟨q2, k2, rfl, hsq2, hk1, hk2⟩ := own_snoc hown2; clear hown2)
          | (refine wp_app (w := w1) (.tmp 26) (.tmp 28) 24 9 rfl W.heap.size (.string ByteArray.empty) 1 16 Tryd.underlying24 infoStr rfl (by decide) _ L.length _ rfl hownA W.heap.size [.string ⟨r.toArray⟩] rfl (he1.blk _ _ ((Ext.drew _).blk _ _ (Blk.new W _))) rfl (by intro u hu; simp at hu; subst hu; rfl) (by omega) (by decide) (by omega) ?_; intro v2 w2 hown2 hgr2; have hE2 := Ext.trans' hE1 (Below.of_grown (B := W.heap.size) hgr2 hownA (Nat.le_refl _) (by omega)); have hz2 := hE2.size; obtain ⟨q2, k2, rfl, hsq2, hk1, hk2⟩ := own_snoc hown2; clear hown2)
          | (go_at_call 53; refine (Fits_f q2 k2 (L.length + 1) (L ++ [r]) d.interval _ hsq2 (by simp) hk1 hk2 HSMR.out).mono ?_; rw [HFT.out]; rintro e w3 ⟨rfl, he3⟩; have hE3 := Ext.trans hE2 he3))
      all_goals (go_wp2_with fail; go_meet; exact ⟨rfl, hE3⟩)
  case rest =>
    obtain ⟨rfl, hE⟩ := hcut
    have hx2 := Hx.out.ext hE
    have Hx2 := Lib.hid hx2
    have Hown2 := Lib.hid (own_ext Hown.out hE)
    have hxl2 := Nat.lt_of_lt_of_le hxl hE.size
    have c3 : wc.cell? ⟨xb, 3, none⟩ = some (.int .i64 h.fin) := Blk.val hx2 3 _ rfl
    have c29 : wc.cell? ⟨xb, 29, none⟩ = some (.slice q L.length k) := Blk.val hx2 29 _ rfl
    have f3 := Blk.free hx2 3
    have f29 := Blk.free hx2 29
    have hBW : B ≤ W.heap.size := by omega
    have HE := Lib.hid hE
    clear hx2 hE
    go_upto_if 32 with (fail)
    go_cut [] (fun wx => ∃ v2, EnAt wx xb p n cap { h with fin := FL } d v2 ∧ wx.ownsRow B 9 1 v2 KL.length (KL.map fun s => .string ⟨s.toArray⟩) ∧ Below B W wx ∧ Two xb (Value.slice q L.length k).ownBlock W wx ∧ (v2.ownBlock = none ∨ v2.ownBlock = (Value.slice q L.length k).ownBlock))
    case first =>
      cases rst
      · have e1 := HKL.out
        have e2 := HFL.out
        simp only [Bool.false_eq_true, if_false] at e1 e2
        subst e1 e2
        go_wp2_with fail
        go_meet
        exact ⟨_, Hx2.out, Hown2.out, Below.mono HE.out hBW, Two.of_ext HE.out, .inr rfl⟩
      · have e1 := HKL.out
        have e2 := HFL.out
        simp only [if_true] at e1 e2
        subst e1 e2
        go_wp2_with fail
        go_meet
        exact ⟨.slice none 0 0, Blk.setCell (i := 3) (v := .int .i64 (h.fin + 1)) (Blk.setCell (i := 29) (v := .slice none 0 0) Hx2.out), World.ownsRow_nil _ _ _ _, ((Below.mono HE.out hBW).setCell hB _).setCell hB _, ((Two.of_ext HE.out).chg Chg.setCell).chg Chg.setCell, .inl rfl⟩
    case rest =>
      obtain ⟨v2, hx3, hown3, hb3, ht3, hv3⟩ := hcut
      obtain ⟨q3, k3, rfl⟩ := own_slice hown3
      have Hx3 := Lib.hid hx3
      have Hown3 := Lib.hid hown3
      have Hb3 := Lib.hid hb3
      have Ht3 := Lib.hid ht3
      have Hv3 := Lib.hid hv3
      clear ht3 hv3
      have d3 : wc.cell? ⟨xb, 3, none⟩ = some (.int .i64 FL) := Blk.val hx3 3 _ rfl
      have d15 : wc.cell? ⟨xb, 15, none⟩ = some (.int .i64 d.interval) := Blk.val hx3 15 _ rfl
      have d29 : wc.cell? ⟨xb, 29, none⟩ = some (.slice q3 KL.length k3) := Blk.val hx3 29 _ rfl
      obtain ⟨hfl1, hfl2⟩ := hfl
      have hm1 : 0 ≤ FL * d.interval := Int.mul_nonneg hfl1 hs0
      have hm2 : FL * d.interval ≤ 20000001 * 512 := Int.mul_le_mul hfl2 hs1 hs0 (by omega)
      clear c3 c29 f3 f29 hx3 hown3 hb3
      obtain ⟨M, hM⟩ : ∃ M, FL * d.interval = M := ⟨_, rfl⟩
      rw [hM] at hm1 hm2
      have HM := Lib.hid hM
      have hMw : IntKind.i64.wrap M = M := IntWalk.i64_in _ (by omega)
      go_wp2_with fail
      go_quiet (fail)
      clear hM hMw
      have hkl : KL.length ≤ 600 ∧ ∀ s ∈ KL, s.length ≤ 1000000 := by
        rw [HKL.out]
        split
        · simp
        · exact ⟨hL, Hsm.out.2⟩
      obtain ⟨hkl1, hkl2⟩ := hkl
      have Hkl2 := Lib.hid hkl2
      have hsq3 : Strs wc q3 KL := by
        obtain ⟨q', k', he, hq, _⟩ := own_strs2 Hown3.out
        simp at he; obtain ⟨rfl, rfl⟩ := he; exact hq
      have Hsq3 := Lib.hid hsq3
      clear hkl2 hsq3
      go_wp2_with fail
      go_loop [5, 65] (fun at' i => ∃ j : Nat, j ≤ KL.length ∧ i = .int .i64 j ∧ at' = .int .i64 (M + (sumLen (KL.take j) : Int))) (fun _ i => KL.length - (intOf i).toNat)
      case atStart => exact ⟨0, Nat.zero_le _, rfl, by simp [sumLen]⟩
      case round =>
        obtain ⟨j, hj, rfl, rfl⟩ := hrel
        have hsb : sumLen (KL.take j) ≤ 600000000 := by
          have h1 := sumLen_le6 (KL.take j) (fun s hs => Hkl2.out s (List.mem_of_mem_take hs))
          have h2 : (KL.take j).length ≤ 600 := by simp; omega
          have h3 := Nat.mul_le_mul_right 1000000 h2
          omega
        by_cases hlt : j < KL.length
        · have hltI : (j : Int) < KL.length := by omega
          obtain ⟨b, off, rfl, hb, hc⟩ := Hsq3.out.at j hlt
          have hcj := hc j hlt
          have HT := Lib.hid (sumLen_take6 KL j hlt)
          have hxl : (KL.getD j []).length ≤ 1000000 := by
            have e : KL.getD j [] = KL[j] := by simp [List.getD, hlt]
            rw [e]; exact Hkl2.out _ (List.getElem_mem hlt)
          clear hc
          generalize KL.getD j [] = x at *
          go_wp2
          go_round
          case rel => exact ⟨j + 1, by omega, by go_num, by rw [HT.out]; go_num⟩
          case measure => simp [intOf]; omega
        · have hltI : decide ((j : Int) < KL.length) = false := by simp; omega
          have hjl : KL.take j = KL := List.take_of_length_le (by omega)
          rw [hjl] at hsb ⊢
          clear hjl
          have Ho3 := Lib.hid (fun nq o => (own_extR Hown3.out (Ext.drewN wc nq)).alloc o)
          have He3 := Lib.hid (fun nq o => (Hx3.out.ext (Ext.drewN wc nq)).ext (Ext.alloc _ o))
          have hB3 : B ≤ wc.heap.size := by have := Blk.lt Hx3.out; omega
          go_wp2_with (first | (at_builtin; go_must (refine wpList_app rfl (.tmp 78) (.tmp 80) 24 9 rfl B (.string ByteArray.empty) 1 16 Tryd.underlying24 infoStr rfl (by decide) _ _ _ rfl (Ho3.out _ _) _ [.string ⟨r.toArray⟩] rfl (Blk.new _ _) rfl (by intro u hu; simp at hu; subst hu; rfl) (by omega) (by decide) (by simp; omega) ?_; intro v4 w4 hown4 hgr4; have hx4 := en_grown (v := .slice q3 KL.length k3) (Ho3.out _ _) (He3.out _ _) hgr4; have hb4 := Below.of_grown (B := B) hgr4 (Ho3.out _ _) (Nat.le_refl _) (by simp; omega); have hb5 : Below B wc w4 := ((Below.mono (Ext.drewN wc _) hB3).alloc (by simp; omega) _).trans hb4; have ht5 : Two xb (Value.slice q L.length k).ownBlock W w4 := ((Ht3.out.trans (Two.of_ext (Ext.drewN wc _))).trans (Two.of_ext (Ext.alloc _ _))).grown hgr4 (by rcases Hv3.out with hv | hv; exact .inl hv; exact .inr (.inl hv)); have Ht5 := Lib.hid ht5; clear ht5; obtain ⟨q4, k4, rfl, _, _, _⟩ := own_snoc hown4; have Hown4 := Lib.hid hown4; have Hx4 := Lib.hid hx4; have Hb5 := Lib.hid hb5; have g29 : w4.cell? ⟨xb, 29, none⟩ = some (.slice q3 KL.length k3) := Blk.val hx4 29 _ rfl; have g2 : w4.cell? ⟨xb, 2, none⟩ = some (.int .i64 h.count) := Blk.val hx4 2 _ rfl; have g29f := Blk.free hx4 29; have g2f := Blk.free hx4 2; clear hown4 hgr4 hx4 hb4 hb5)))
          go_ret
          have ne4 : (Value.slice q4 (KL.length + 1) k4).ownBlock ≠ some xb := en_ne Hown4.out Hx4.out
          exact addOut_mk HK.out (by rw [HM.out]) (((Hb3.out.trans Hb5.out).setCell hB _).setCell hB _) ((Ht5.out.chg Chg.setCell).chg Chg.setCell) (Blk.setCell (i := 2) (v := .int .i64 (h.count + 1)) (Blk.setCell (i := 29) (v := .slice q4 (KL.length + 1) k4) Hx4.out)) (own_setRow (own_setRow Hown4.out xb 29 _ ne4) xb 2 _ ne4)
end Go.Proofs.YtkhlglkipeoalaaDoor
