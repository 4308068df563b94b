/- The walk of the law's build: a cluster out of records, one after the other. -/
import Derived.Test.YtkhlglkipeoalaaDoorX25
import Derived.Test.YtkhlglkipeoalaaDoorPiv3
set_option linter.unusedSimpArgs false
set_option linter.unusedVariables false
namespace Dsd
/-- One record more, if its length is allowed. -/
def stepC (d : DS) (C : List Recs) (r : List UInt8) : List Recs := if 1 ≤ r.length ∧ (r.length : Int) ≤ d.length then putC d.interval C r else C
def builtC (d : DS) (rs : Recs) : List Recs := rs.foldl (stepC d) []
theorem builtC_snoc (d : DS) (rs : Recs) (k : Nat) (h : k < rs.length) : builtC d (rs.take (k + 1)) = stepC d (builtC d (rs.take k)) (rs.getD k []) := by
  unfold builtC
  rw [List.take_succ_eq_append_getElem h, List.foldl_append]
  simp [List.getD, h]
theorem stepC_made {d : DS} {C : List Recs} {r : List UInt8} (h : Made d C) (hv : validB d = true) : Made d (stepC d C r) ∧ ((stepC d C r).map List.length).sum ≤ (C.map List.length).sum + 1 := by
  unfold stepC
  split
  · rename_i hl
    exact ⟨h.put hv hl.1 hl.2, by rw [count_put]; exact Nat.le_refl _⟩
  · exact ⟨h, by omega⟩
theorem builtC_made (d : DS) (hv : validB d = true) : ∀ (k : Nat) (rs : Recs), k ≤ rs.length → Made d (builtC d (rs.take k)) ∧ ((builtC d (rs.take k)).map List.length).sum ≤ k
  | 0, rs, _ => ⟨by simpa [builtC] using Made.nil d, by simp [builtC]⟩
  | k + 1, rs, h => by
    obtain ⟨h1, h2⟩ := builtC_made d hv k rs (by omega)
    rw [builtC_snoc d rs k (by omega)]
    obtain ⟨h3, h4⟩ := stepC_made (r := rs.getD k []) h1 hv
    exact ⟨h3, by omega⟩
/-- The address of the last record. -/
def lastA (size : Int) (C : List Recs) : Int := ((recsA size C).getLast?.map (·.1)).getD 0
theorem lastA_put (size : Int) (C : List Recs) (r : List UInt8) : lastA size (putC size C r) = addrP size C r := by
  unfold lastA
  rw [recsA_put]
  simp
theorem lastA_lt {size : Int} {C : List Recs} {r : List UInt8} (h : FitC size C) (h0 : 1 ≤ size) : lastA size C < addrP size C r := by
  unfold lastA
  cases hl : (recsA size C).getLast? with
  | none =>
    simp only [Option.map_none, Option.getD_none]
    unfold addrP
    have hp : 1 ≤ (putC size C r).length := by
      cases C with
      | nil => simp [putC]
      | cons L C => rw [putC]; split <;> simp
    have := Int.mul_le_mul (show (1 : Int) ≤ (putC size C r).length by omega) h0 (by omega) (by omega)
    omega
  | some x =>
    simp only [Option.map_some, Option.getD_some]
    exact addr_gt h (by omega) x (List.mem_of_getLast? hl)
/-- The pairs of a cluster. -/
def pairsC (size : Int) (C : List Recs) : List (List UInt8 × List UInt8) := (recsA size C).map fun x => (slotL x.1, x.2)
theorem pairsC_put (size : Int) (C : List Recs) (r : List UInt8) : pairsC size (putC size C r) = pairsC size C ++ [(slotL (addrP size C r), r)] := by
  unfold pairsC
  rw [recsA_put]
  simp
theorem addrP_le {d : DS} {C : List Recs} {r : List UInt8} (h : Made d (putC d.interval C r)) (hs : d.interval ≤ 512) (h0 : 0 ≤ d.interval) (hc : (putC d.interval C r).length ≤ 1000) : 0 ≤ addrP d.interval C r ∧ addrP d.interval C r ≤ 1000 * 512 + 512 := by
  unfold addrP
  have h1 : ((putC d.interval C r).length : Int) * d.interval ≤ 1000 * 512 := Int.mul_le_mul (by omega) hs h0 (by omega)
  have h2 : 0 ≤ ((putC d.interval C r).length : Int) * d.interval := Int.mul_nonneg (by omega) h0
  have h3 : sumLen ((putC d.interval C r).headD []).dropLast ≤ 512 := by
    cases hC : putC d.interval C r with
    | nil => simp [sumLen]
    | cons L C' =>
      have hL := (h.fit L (by rw [hC]; simp)).2
      have hd : sumLen L.dropLast ≤ sumLen L := by
        rcases List.eq_nil_or_concat L with hn | ⟨a, b, hab⟩
        · rw [hn]; simp
        · rw [hab]; simp [sumLen_append]
      simp only [List.headD_cons]
      omega
  omega
theorem memOf_small (size : Int) (C : List Recs) (h : C.length ≤ 1000) : Small (memOf size C) := by
  refine ⟨by rw [length_memOf]; omega, fun s hs => ?_⟩
  unfold memOf at hs
  rw [List.mem_cons] at hs
  rcases hs with rfl | hs
  · simp
  · simp only [List.mem_map] at hs
    obtain ⟨L, _, rfl⟩ := hs
    have := encStr_le (size := size) (L := L)
    omega
end Dsd
namespace Go.Proofs.YtkhlglkipeoalaaDoor
open Go.RowKit Dsd

def prCells (L : List (List UInt8 × List UInt8)) : List Value := L.flatMap fun x => [.string ⟨x.1.toArray⟩, .string ⟨x.2.toArray⟩]
theorem infoPair : (Tryd.prog.info? 61).map (fun i => (i.zero, i.size, i.bytes)) = some (some (.agg #[.string ByteArray.empty, .string ByteArray.empty]), 2, 32) := by kernel_rfl
/-- What stands in build's loop, behind some records. -/
def BldIn (w : World) (hb : Nat) (d : DS) (C : List Recs) (v u : Value) (wr : World) : Prop :=
  Ext w wr ∧ HdAt wr hb (hdOf C) ∧ DsAt wr w.heap.size d ∧ KS (w.heap.size + 1) wr ∧ wr.ownsRow w.heap.size 9 1 v (memOf d.interval C).length ((memOf d.interval C).map fun s : List UInt8 => Value.string ⟨s.toArray⟩) ∧
    wr.ownsRow w.heap.size 61 2 u (pairsC d.interval C).length (prCells (pairsC d.interval C))
/-- What build hands back. -/
def BuildOut (d : DS) (C : List Recs) (w : World) (e : Ending) (w' : World) : Prop :=
  Ext w w' ∧ ∃ q k c q2 k2 c2, e = .returned (.tuple #[.agg #[.int .i64 (hdOf C).applied, .int .i64 (hdOf C).count, .int .i64 (hdOf C).fin, .int .i64 (hdOf C).root, .int .i64 (hdOf C).height, .int .i64 (hdOf C).splits, .int .i64 (hdOf C).areas], .slice q k c, .slice q2 k2 c2, .bool true]) ∧
    w'.ownsRow w.heap.size 9 1 (.slice q k c) (memOf d.interval C).length ((memOf d.interval C).map fun s : List UInt8 => Value.string ⟨s.toArray⟩) ∧
    w'.ownsRow w.heap.size 61 2 (.slice q2 k2 c2) (pairsC d.interval C).length (prCells (pairsC d.interval C))

/-! ### Words for build's last region: two pivots -/
def RP (B : Nat) : Rel := fun w w' => Below B w w' ∧ ∀ b cs t, t ≠ 61 → Blk w b (.cells cs t) → Blk w' b (.cells cs t)
def RH (hb : Nat) : Rel := fun w w' => (∃ cs, Blk w hb (.cells cs 28)) ∧ Chg hb w w'
def RB (B hb : Nat) : Nat → Rel := fun i => if i = 13 then RP B else RH hb
def LdF (hb : Nat) (v : Value) : Fact := fun x w => x = v ∧ KS hb w
theorem LdF.stable (hb : Nat) (v : Value) : (LdF hb v).stable := fun _ _ _ he ⟨h1, h2⟩ => ⟨h1, h2.ext he⟩
def HbF (hb : Nat) (v : Value) (cs : Array Value) : Fact := fun x w => x = v ∧ Blk w hb (.cells cs 28)
def EnvF (w0 : World) (d : DS) (v : Value) : Fact := fun x w => x = v ∧ DsAt w w0.heap.size d ∧ KS (w0.heap.size + 1) w
theorem EnvF.stable (w0 : World) (d : DS) (v : Value) : (EnvF w0 d v).stable := fun _ _ _ he ⟨h1, h2, h3⟩ => ⟨h1, h2.ext he, h3.ext he⟩
def GB (hb : Nat) (v : Value) (cs : Array Value) : Nat → Nat → Fact := fun i _ => if i = 15 then HbF hb v cs else Any
theorem rh_other {hb b : Nat} {w w' : World} {cs : Array Value} {t : TypeId} (c : RH hb w w') (h : Blk w b (.cells cs t)) (hne : b ≠ hb) : Blk w' b (.cells cs t) := c.2.blk h hne
theorem rh_type {hb b : Nat} {w w' : World} {cs : Array Value} {t : TypeId} (c : RH hb w w') (h : Blk w b (.cells cs t)) (hne : t ≠ 28) : Blk w' b (.cells cs t) := by
  obtain ⟨⟨cs0, h0⟩, c⟩ := c
  exact Blk.tchg' (B := 0) h hne ⟨hb, cs0, Nat.zero_le _, h0, c⟩
theorem own_rp {B : Nat} {w w' : World} {base : Nat} {e : TypeId} {size : Nat} {v : Value} {n : Nat} {xs : List Value} (h : w.ownsRow base e size v n xs) (hne : e ≠ 61) (c : RP B w w') : w'.ownsRow base e size v n xs := by
  refine ⟨h.1, ?_⟩
  rcases h.2 with hn | ⟨b, cap, cur, rfl, hb, hg, rest⟩
  · exact .inl hn
  · exact .inr ⟨b, cap, cur, rfl, hb, c.2 b cur e hne hg, rest⟩
theorem own_rh {hb : Nat} {w w' : World} {base : Nat} {e : TypeId} {size : Nat} {v : Value} {n : Nat} {xs : List Value} (h : w.ownsRow base e size v n xs) (hne : e ≠ 28) (c : RH hb w w') : w'.ownsRow base e size v n xs := by
  obtain ⟨⟨cs0, h0⟩, c⟩ := c
  exact own_chgT h hne h0 c
theorem ks_rp {B b : Nat} {w w' : World} (h : KS b w) (c : RP B w w') : KS b w' := by obtain ⟨o, h1, h2⟩ := h; exact ⟨o, c.2 _ _ _ (by decide) h1, h2⟩
theorem rp_of {w w' : World} {B : Nat} {size n : Nat} {v : Value} {xs : List Value} (hg : w.grownBy w' v.ownBlock) (ho : w.ownsRow B 61 size v n xs) (hB : B ≤ w.heap.size) : RP B w w' := by
  refine ⟨Below.of_grown hg ho (Nat.le_refl _) hB, fun b cs t hne hb => (hg.block b (Blk.lt hb) (fun e => ?_)).trans hb⟩
  obtain ⟨_, ⟨rfl, _⟩ | ⟨g, cap, cur, rfl, _, hgg, _⟩⟩ := ho
  · simp [Value.ownBlock] at e
  · simp [Value.ownBlock] at e
    subst e
    have := (Eq.symm hb).trans hgg
    simp at this
    exact hne this.2
theorem keep2 {l : List Oper} {f : Fact} {k B hb : Nat} (h1 : Pre.condX .any l (13, [(12, 102)]) k = true ∨ ∀ v w w', RP B w w' → f v w → f v w') (h2 : Pre.condX .any l (15, [(0, 90)]) k = true ∨ ∀ v w w', RH hb w w' → f v w → f v w') :
    Pre.KeepsP .any l [(13, [(12, 102)]), (15, [(0, 90)])] (RB B hb) k f := by
  intro x hx
  simp at hx
  rcases hx with rfl | rfl
  · exact h1
  · exact h2
theorem kL {l : List Oper} {k B hb : Nat} {v : Value} (h : Pre.condX .any l (15, [(0, 90)]) k = true) : Pre.KeepsP .any l [(13, [(12, 102)]), (15, [(0, 90)])] (RB B hb) k (LdF hb v) :=
  keep2 (.inr fun _ _ _ c ⟨h1, h2⟩ => ⟨h1, ks_rp h2 c⟩) (.inl h)
theorem kE {l : List Oper} {k B hb : Nat} {v : Value} {w0 : World} {d : DS} (hw : w0.heap.size + 1 < hb) : Pre.KeepsP .any l [(13, [(12, 102)]), (15, [(0, 90)])] (RB B hb) k (EnvF w0 d v) :=
  keep2 (.inr fun _ _ _ c ⟨h1, h2, h3⟩ => ⟨h1, c.2 _ _ _ (by decide) h2, ks_rp h3 c⟩) (.inr fun _ _ _ c ⟨h1, h2, h3⟩ => ⟨h1, rh_type c h2 (by decide), by obtain ⟨o, k1, k2⟩ := h3; exact ⟨o, rh_other c k1 (by omega), k2⟩⟩)
theorem kR {l : List Oper} {k B hb B0 size n : Nat} {xs : List Value} : Pre.KeepsP .any l [(13, [(12, 102)]), (15, [(0, 90)])] (RB B hb) k (RowsF 9 B0 size n xs) :=
  keep2 (.inr fun _ _ _ c ⟨q, cc, h1, h2⟩ => ⟨q, cc, h1, own_rp h2 (by decide) c⟩) (.inr fun _ _ _ c ⟨q, cc, h1, h2⟩ => ⟨q, cc, h1, own_rh h2 (by decide) c⟩)
theorem kF {l : List Oper} {k B hb n cap : Nat} {cs : Array Value} (h : Pre.condX .any l (13, [(12, 102)]) k = true) : Pre.KeepsP .any l [(13, [(12, 102)]), (15, [(0, 90)])] (RB B hb) k (Fresh n cap (.cells cs 61)) :=
  keep2 (.inl h) (.inr fun _ _ _ c ⟨b, h1, h2⟩ => ⟨b, h1, rh_type c h2 (by decide)⟩)
theorem kP {l : List Oper} {k B hb B0 size n : Nat} {xs : List Value} (h : Pre.condX .any l (13, [(12, 102)]) k = true) : Pre.KeepsP .any l [(13, [(12, 102)]), (15, [(0, 90)])] (RB B hb) k (RowsF 61 B0 size n xs) :=
  keep2 (.inl h) (.inr fun _ _ _ c ⟨q, cc, h1, h2⟩ => ⟨q, cc, h1, own_rh h2 (by decide) c⟩)
/-- What holds till the pivots come up. -/
def PrB (w0 w3 : World) (hb b13 : Nat) (cs : Array Value) (d : DS) : Nat → World → Prop := fun p w => if p = 13 then Ext w3 w else Blk w b13 (.cells cs 28) ∧ KS hb w ∧ DsAt w w0.heap.size d ∧ KS (w0.heap.size + 1) w
theorem PrB.at13 {w0 w3 w : World} {hb b13 : Nat} {cs : Array Value} {d : DS} (h : PrB w0 w3 hb b13 cs d 13 w) : Ext w3 w := by simpa [PrB] using h
theorem PrB.at15 {w0 w3 w : World} {hb b13 : Nat} {cs : Array Value} {d : DS} (h : PrB w0 w3 hb b13 cs d 15 w) : Blk w b13 (.cells cs 28) ∧ KS hb w ∧ DsAt w w0.heap.size d ∧ KS (w0.heap.size + 1) w := by simpa [PrB] using h
theorem prok_bld {B hb b13 n : Nat} {cs : Array Value} {d : DS} {w0 w3 : World} {l : List Oper} (hm : mustB .any l 13 15 = true) (hB : orderB .any l.toArray n = true) : Pre.PrOk .any l.toArray [(13, [(12, 102)]), (15, [(0, 90)])] (RB B hb) (PrB w0 w3 hb b13 cs d) := by
  refine ⟨fun p hp w w' he h => ?_, fun p q hp hq hne => ?_⟩
  · unfold PrB at *
    by_cases h13 : p = 13
    · rw [if_pos h13] at h ⊢
      exact Ext.trans h he
    · rw [if_neg h13] at h ⊢
      obtain ⟨h1, h2, h3, h4⟩ := h
      exact ⟨he.blk _ _ h1, h2.ext he, h3.ext he, h4.ext he⟩
  · simp [pivB] at hp hq
    rcases hp with rfl | rfl
    · rcases hq with rfl | rfl
      · exact absurd rfl hne
      · exact .inl (mustB_must hB hm)
    · rcases hq with rfl | rfl
      · refine .inr fun w w' c h => ?_
        unfold PrB at *
        simp at h ⊢
        simp [RB] at c
        obtain ⟨h1, h2, h3, h4⟩ := h
        exact ⟨c.2 _ _ _ (by decide) h1, ks_rp h2 c, c.2 _ _ _ (by decide) h3, ks_rp h4 c⟩
      · exact absurd rfl hne
theorem gok_bld (hb : Nat) (w0 : World) (hw : w0.heap.size ≤ hb) (cs : Array Value) (l : List Oper) (v : Value) (hm : mustB .any l 0 15 = true) : GOk l w0 [(13, [(12, 102)]), (15, [(0, 90)])] (RB w0.heap.size hb) (GB hb v cs) := by
  refine ⟨fun i w w' h => ?_, fun i j => ?_, fun p j i hk hp hne x a b h hx => ?_, fun p j hk => ?_⟩
  · unfold RB at h
    split at h
    · exact h.1
    · obtain ⟨⟨cs0, h0⟩, c⟩ := h
      exact ⟨c.os, c.tape, c.output, by rw [c.size]; have := Blk.lt h0; omega, fun k hk => c.block k (by omega)⟩
  · unfold GB
    split
    · exact fun _ _ _ he ⟨h1, h2⟩ => ⟨h1, he.blk _ _ h2⟩
    · exact Any.stable
  · simp [killB, pivB] at hk hp
    unfold GB RB at *
    split at hx
    · rename_i h15
      rw [if_pos (by omega)] at h
      rw [if_pos h15]
      exact ⟨hx.1, h.2 _ _ _ (by decide) hx.2⟩
    · rename_i h15
      rw [if_neg h15]; trivial
  · simp [killB] at hk
    rcases hk with ⟨rfl, rfl⟩ | ⟨rfl, rfl⟩
    · left; unfold GB; rw [if_neg (by decide)]
    · right; exact hm

set_option maxRecDepth 100000 in
set_option maxHeartbeats 4000000 in
theorem build_any (p : Option Addr) (cap n : Nat) (L : Recs) (d : DS) (w : World) (hs : Strs w p L) (hn : L.length = n) (hv : validB d = true) (ho : d.org = 1) (hL : L.length ≤ 40) (hLs : ∀ i, (L.getD i []).length ≤ 300) :
    Calls Tryd.prog 18 #[.agg #[.int .i64 d.id, .int .i64 d.org, .int .i64 d.format, .int .i64 d.length, .int .i64 d.block, .int .i64 d.keyAt, .int .i64 d.keyLength, .int .i64 d.interval, .int .i64 d.area, .int .i64 d.freeInterval, .int .i64 d.freeArea, .int .i64 d.base, .int .i64 d.altAt, .int .i64 d.altLength, .bool d.unique, .int .i64 d.cls, .string ⟨d.volume.toArray⟩, .string ⟨d.owner.toArray⟩, .int .i64 d.created, .int .i64 d.expires, .bool d.archived], .slice p n cap] w (BuildOut d (builtC d L) w) := by
  have Hs := Lib.hid hs
  subst hn
  obtain ⟨_, _, v3, v4, v5, v6⟩ := valid_spec hv
  have hiv : 128 ≤ d.interval ∧ d.interval ≤ 512 := by rcases isSize_spec v3 with h | h | h <;> omega
  obtain ⟨hi0, hi1⟩ := hiv
  have HMd := Lib.hid (fun k h => builtC_made d hv k L h)
  have HLs := Lib.hid hLs
  have HV := Lib.hid hv
  have HO := Lib.hid ho
  clear hs hLs hv ho v3 v6
  go_enter Tryd.func18, Tryd.ntmps18
  go_upto_region 3 with (first | (refine wpList_bld (o := ⟨some 17, _, _, _, _, _⟩) rfl 28 #[] rfl [] rfl _ hdBuilt0 ?_) | (refine wpList_put rfl 28 (.tmp 8) (.tmp 17) rfl _ #[.int .i64 0, .int .i64 0, .int .i64 0, .int .i64 0, .int .i64 0, .int .i64 0, .int .i64 0] rfl rfl _ _ (Blk.new1 _ _ _ (by simp)) hdSize rfl (hd_one Hd.zero) ?_; intro w4 hb4 hc4))
  have hx4 : Ext w w4 := hc4.ext ((((Ext.alloc _ _).trans (Ext.alloc _ _)).trans (Ext.alloc _ _)).trans ((Ext.alloc _ _).trans (Ext.alloc _ _))) (show w.heap.size ≤ w.heap.size + 1 + 1 + 1 + 1 by omega)
  have kz : Blk ((w.alloc (.cells #[.int .i64 d.id, .int .i64 d.org, .int .i64 d.format, .int .i64 d.length, .int .i64 d.block, .int .i64 d.keyAt, .int .i64 d.keyLength, .int .i64 d.interval, .int .i64 d.area, .int .i64 d.freeInterval, .int .i64 d.freeArea, .int .i64 d.base, .int .i64 d.altAt, .int .i64 d.altLength, .bool d.unique, .int .i64 d.cls, .string ⟨d.volume.toArray⟩, .string ⟨d.owner.toArray⟩, .int .i64 d.created, .int .i64 d.expires, .bool d.archived] 23)).alloc (.cells #[.int .i64 0, .int .i64 0, .int .i64 0, .int .i64 0, .int .i64 0, .int .i64 0, .int .i64 0] 28)) (w.heap.size + 1) (.cells #[.int .i64 0, .int .i64 0, .int .i64 0, .int .i64 0, .int .i64 0, .int .i64 0, .int .i64 0] 28) := Blk.new1 _ _ _ (by simp)
  have km : Blk (((w.alloc (.cells #[.int .i64 d.id, .int .i64 d.org, .int .i64 d.format, .int .i64 d.length, .int .i64 d.block, .int .i64 d.keyAt, .int .i64 d.keyLength, .int .i64 d.interval, .int .i64 d.area, .int .i64 d.freeInterval, .int .i64 d.freeArea, .int .i64 d.base, .int .i64 d.altAt, .int .i64 d.altLength, .bool d.unique, .int .i64 d.cls, .string ⟨d.volume.toArray⟩, .string ⟨d.owner.toArray⟩, .int .i64 d.created, .int .i64 d.expires, .bool d.archived] 23)).alloc (.cells #[.int .i64 0, .int .i64 0, .int .i64 0, .int .i64 0, .int .i64 0, .int .i64 0, .int .i64 0] 28)).alloc (.cells #[.string ⟨#[]⟩] 9)) (w.heap.size + 1 + 1) (.cells #[.string ⟨#[]⟩] 9) := Blk.new1 _ _ _ (by simp)
  have kl : Blk ((((w.alloc (.cells #[.int .i64 d.id, .int .i64 d.org, .int .i64 d.format, .int .i64 d.length, .int .i64 d.block, .int .i64 d.keyAt, .int .i64 d.keyLength, .int .i64 d.interval, .int .i64 d.area, .int .i64 d.freeInterval, .int .i64 d.freeArea, .int .i64 d.base, .int .i64 d.altAt, .int .i64 d.altLength, .bool d.unique, .int .i64 d.cls, .string ⟨d.volume.toArray⟩, .string ⟨d.owner.toArray⟩, .int .i64 d.created, .int .i64 d.expires, .bool d.archived] 23)).alloc (.cells #[.int .i64 0, .int .i64 0, .int .i64 0, .int .i64 0, .int .i64 0, .int .i64 0, .int .i64 0] 28)).alloc (.cells #[.string ⟨#[]⟩] 9)).alloc (.cells #[] 61)) (w.heap.size + 1 + 1 + 1) (.cells #[] 61) := Blk.new1 _ _ _ (by simp)
  refine wp_name (fun w5 => BldIn w (w.heap.size + 1 + 1 + 1 + 1) d [] (.slice (some ⟨w.heap.size + 1 + 1, 0, none⟩) 1 1) (.slice (some ⟨w.heap.size + 1 + 1 + 1, 0, none⟩) 0 0) w5 ∧ w.heap.size + 1 + 1 + 1 + 1 < w5.heap.size) ⟨⟨hx4, hb4, hc4.blk (Blk.alloc (Blk.alloc (Blk.alloc (Blk.alloc (Blk.new w _) _) _) _) _) (by omega), ⟨_, hc4.blk (Blk.alloc (Blk.alloc (Blk.alloc kz _) _) _) (by omega), rfl⟩, own_lit1 (hc4.blk (Blk.alloc (Blk.alloc km _) _) (by omega)) (by omega), ⟨by simp [pairsC, recsA, prCells], .inr ⟨_, 0, #[], rfl, by omega, hc4.blk (Blk.alloc kl _) (by omega), Nat.le_refl _, by simp, rfl, by simp [pairsC, recsA, prCells]⟩⟩⟩, Blk.lt hb4⟩ ?_
  clear hb4 hc4 kz km kl hx4
  rintro w5 ⟨hin, hhb⟩
  have hwb : w.heap.size + 1 < w.heap.size + 1 + 1 + 1 + 1 := by omega
  generalize w.heap.size + 1 + 1 + 1 + 1 = hb at *
  generalize w.heap.size + 1 + 1 + 1 = lb at *
  generalize w.heap.size + 1 + 1 = mb at *
  have Hin := Lib.hid hin
  clear hin
  go_wp2_with fail
  go_loopw [9, 10, 11, 12] (fun v u la i wr => ∃ j : Nat, j ≤ L.length ∧ i = .int .i64 j ∧ la = .int .i64 (lastA d.interval (builtC d (L.take j))) ∧ BldIn w hb d (builtC d (L.take j)) v u wr) (fun _ _ _ i _ => L.length - (intOf i).toNat)
  case atStart => exact ⟨0, Nat.zero_le _, rfl, by simp [builtC, lastA, recsA], by simpa [builtC] using Hin.out⟩
  case round =>
    obtain ⟨j, hj, rfl, rfl, hin⟩ := hrel
    obtain ⟨hMd, hcnt⟩ := HMd.out j hj
    by_cases hlt : j < L.length
    · have hltI : (j : Int) < L.length := by omega
      have HS := Lib.hid (builtC_snoc d L j hlt)
      have hrl := HLs.out j
      generalize builtC d (L.take j) = C at *
      obtain ⟨hext, hb5, hb2, hks, hrow, hprs⟩ := hin
      have hcl := count_len C (fun M hM => (hMd.good M hM).1)
      have hMs := memOf_small d.interval C (by omega)
      have hmp : 0 < (memOf d.interval C).length := by rw [length_memOf]; omega
      have hml : (memOf d.interval C).length ≤ 1000 := by rw [length_memOf]; omega
      obtain ⟨qm, cm, rfl, hsq, _, _, _⟩ := own_strs_p hrow
      obtain ⟨ad, rfl⟩ := Option.isSome_iff_exists.1 (own_nonil hrow hmp)
      obtain ⟨qp, cp, rfl⟩ := own_slice hprs
      obtain ⟨b, off, rfl, hbb, hc⟩ := (Hs.out.ext hext).at j hlt
      have hck := hc j hlt
      generalize L.getD j [] = r at *
      have hAM := append_made (r := r) hMd HV.out HO.out (by omega)
      have HA1 := Lib.hid (fun w' (e : Ext wr w') => (Append_any (some ad) (memOf d.interval C).length cm (memOf d.interval C) (hdOf C) d r w' (hsq.ext e) rfl hMs (by omega)).mono (fun e w'' a => appOut_F a))
      have Hb5 := Lib.hid hb5
      have Hb2 := Lib.hid hb2
      have Hks := Lib.hid hks
      have Hrow := Lib.hid hrow
      have Hprs := Lib.hid hprs
      have Hext := Lib.hid hext
      have HMd2 := Lib.hid hMd
      have hhb2 : hb < wr.heap.size := Blk.lt hb5
      have hwh : w.heap.size < wr.heap.size := Blk.lt hb2
      have Hsq0 := Lib.hid hsq
      have hck0 := hck
      have hbb0 := hbb
      have HCK := Lib.hid hck0
      clear hc hMs hsq hb5 hb2 hrow hext hMd hks hprs hck0
      by_cases hal : 1 ≤ r.length ∧ (r.length : Int) ≤ d.length
      · rw [if_pos hal] at hAM
        rw [hAM] at HA1
        have HN : Hid (stepC d C r = putC d.interval C r) := Lib.hid (by unfold stepC; rw [if_pos hal])
        have hMd' := HMd2.out.put HV.out hal.1 hal.2
        have hcp := count_put (size := d.interval) (C := C) (r := r)
        have hcl' := count_len _ (fun M hM => (hMd'.good M hM).1)
        have hAd := addrP_le hMd' hi1 (by omega) (by omega)
        have hla := lastA_lt (r := r) HMd2.out.fit (by omega)
        have HPC := Lib.hid (pairsC_put d.interval C r)
        have HLA := Lib.hid (lastA_put d.interval C r)
        have HPM := Lib.hid (puts_made (size := d.interval) (C := C) (r := r) (by omega))
        have hg1 : (hdOf (putC d.interval C r)).count = (hdOf C).count + 1 := by simp [hdOf, hcp]
        have hg2 : (hdOf C).fin ≤ (hdOf (putC d.interval C r)).fin := by
          simp only [hdOf]
          cases C with
          | nil => simp
          | cons M C => rw [putC]; split <;> simp <;> omega
        have hg3 : 0 ≤ (hdOf C).count ∧ (hdOf C).count ≤ 1000 := by simp [hdOf]; omega
        generalize putC d.interval C r = C' at *
        generalize encStr d.interval (C'.headD []) = es at *
        generalize addrP d.interval C r = AT at *
        obtain ⟨G, hG⟩ : ∃ G : Hd, G = hdOf C' := ⟨_, rfl⟩
        obtain ⟨H, hH⟩ : ∃ H : Hd, H = hdOf C := ⟨_, rfl⟩
        obtain ⟨WA, hWA⟩ : ∃ WA : List (Int × List UInt8), WA = [((C'.length : Int), es)] := ⟨_, rfl⟩
        obtain ⟨EA, hEA⟩ : ∃ EA : Int, EA = 0 := ⟨_, rfl⟩
        rw [← hG, ← hH, ← hWA, ← hEA] at HA1
        rw [← hH] at Hb5 hg1 hg2 hg3
        rw [← hG] at hg1 hg2
        rw [← hWA] at HPM
        have HEA := Lib.hid hEA
        have HHd := Lib.hid hH
        have HGd := Lib.hid hG
        have hWl : WA.length = 1 := by rw [hWA]; rfl
        have HWl := Lib.hid hWl
        have Hg1 := Lib.hid hg1
        clear hAM hG hH hWA hEA hWl hMd' hcp hcl' hg1
        go_upto_region 6 with (fail)
        refine wp_region_pk 200 [(15, [(14, 13)])] (Ext.refl wr) (by kernel_rfl) (by kernel_rfl) (by kernel_rfl) (by kernel_rfl) (by kernel_rfl) (by kernel_rfl) (gok_one _ _ 15 14 13 (TChg wr.heap.size 28) (PtrF wr.heap.size (.cells #[.int .i64 G.applied, .int .i64 G.count, .int .i64 G.fin, .int .i64 G.root, .int .i64 G.height, .int .i64 G.splits, .int .i64 G.areas] 28)) (fun _ _ h => h.below) (PtrF.stable _ _) (by kernel_rfl)) ?_
        simp only [List.take_succ_cons, List.take_zero, List.take_nil, List.drop_succ_cons, List.drop_zero, List.drop_nil, List.map_cons, List.map_nil]
        repeat (first
          | (refine wpPL_step (o := ⟨some 13, _, _, _, _, _⟩) (PtrF wr.heap.size (.cells #[.int .i64 0, .int .i64 0, .int .i64 0, .int .i64 0, .int .i64 0, .int .i64 0, .int .i64 0] 28)) (PtrF.stable _ _) (by first | exact .inr (AppF.strong _ _ _ _ (by decide)) | exact .inr (WrF.strong _ _ _ _ (by decide)) | exact .inr (RowsF.strong _ _ _ _ _ _ _ _ (by decide)) | exact .inr (Fresh.strong _ _ _ _ _ _ _ (by decide)) | exact .inr (IfcF.strong (Fresh.strong _ _ _ _ _ _ _ (by decide)) _) | exact .inl (by kernel_rfl)) (by kernel_rfl) (by first | exact .inl rfl | exact .inr ⟨_, _, _, rfl, rfl, rfl⟩) ?_ ?_
             · intro a w' he hr K hK
               go_simp
               exact hK _ _ (Ext.alloc _ _) ⟨_, rfl, Blk.new _ _, he.size⟩
             simp only [setL, List.set_cons_succ, List.set_cons_zero])
          | (refine wpPL_det (o := ⟨some 29, _, _, _, _, _⟩) (v := .agg #[.int .i64 H.applied, .int .i64 H.count, .int .i64 H.fin, .int .i64 H.root, .int .i64 H.height, .int .i64 H.splits, .int .i64 H.areas]) (by kernel_rfl) (by first | exact .inl rfl | exact .inr ⟨_, _, _, rfl, rfl, rfl⟩) ?_ ?_
             · intro a w' he hr K hK
               simp [Reads, Oper.looksAt, Op.operands, factAt, Is] at hr
               exact wp_load_row 28 (.tmp 8) rfl (hb) (by go_simp) _ _ _ _ (he.blk _ _ Hb5.out) hdDesc rfl hdSize (hK _ (Ext.refl _))
             simp only [setL, List.set_cons_succ, List.set_cons_zero])
          | (refine wpPL_det (o := ⟨some 30, _, _, _, _, _⟩) (v := .agg #[.int .i64 d.id, .int .i64 d.org, .int .i64 d.format, .int .i64 d.length, .int .i64 d.block, .int .i64 d.keyAt, .int .i64 d.keyLength, .int .i64 d.interval, .int .i64 d.area, .int .i64 d.freeInterval, .int .i64 d.freeArea, .int .i64 d.base, .int .i64 d.altAt, .int .i64 d.altLength, .bool d.unique, .int .i64 d.cls, .string ⟨d.volume.toArray⟩, .string ⟨d.owner.toArray⟩, .int .i64 d.created, .int .i64 d.expires, .bool d.archived]) (by kernel_rfl) (by first | exact .inl rfl | exact .inr ⟨_, _, _, rfl, rfl, rfl⟩) ?_ ?_
             · intro a w' he hr K hK
               simp [Reads, Oper.looksAt, Op.operands, factAt, Is] at hr
               exact wp_load_row 23 (.tmp 2) rfl (w.heap.size) (by go_simp) _ _ _ _ (he.blk _ _ Hb2.out) dsDesc rfl dsSize (hK _ (Ext.refl _))
             simp only [setL, List.set_cons_succ, List.set_cons_zero])
          | (refine wpPL_step (o := ⟨some 35, _, _, _, _, _⟩) (AppF ⟨G, WA, AT, EA⟩) (AppF.stable _) (by first | exact .inr (AppF.strong _ _ _ _ (by decide)) | exact .inr (WrF.strong _ _ _ _ (by decide)) | exact .inr (RowsF.strong _ _ _ _ _ _ _ _ (by decide)) | exact .inr (Fresh.strong _ _ _ _ _ _ _ (by decide)) | exact .inr (IfcF.strong (Fresh.strong _ _ _ _ _ _ _ (by decide)) _) | exact .inl (by kernel_rfl)) (by kernel_rfl) (by first | exact .inl rfl | exact .inr ⟨_, _, _, rfl, rfl, rfl⟩) ?_ ?_
             · intro a w' he hr K hK
               simp [Reads, Oper.looksAt, Op.operands, Call.operands, factAt, Is] at hr
               go_simp
               refine ((HA1.out w' he)).mono ?_
               rintro e w'' ⟨v, rfl, he', hf⟩
               exact hK _ _ he' hf
             simp only [setL, List.set_cons_succ, List.set_cons_zero])
          | (refine wpPL_det (o := ⟨some 36, _, _, _, _, _⟩) (v := .agg #[.int .i64 G.applied, .int .i64 G.count, .int .i64 G.fin, .int .i64 G.root, .int .i64 G.height, .int .i64 G.splits, .int .i64 G.areas]) (by kernel_rfl) (by first | exact .inl rfl | exact .inr ⟨_, _, _, rfl, rfl, rfl⟩) ?_ ?_
             · intro a w' he hr K hK
               obtain ⟨q1, k1, c1, h1, h2, h3⟩ := hr 26 (by simp [Oper.looksAt, Op.operands])
               simp at h1
               go_simp
               exact hK _ (Ext.refl _)
             simp only [setL, List.set_cons_succ, List.set_cons_zero])
          | (refine wpPL_det (o := ⟨some 38, _, _, _, _, _⟩) (v := .int .i64 AT) (by kernel_rfl) (by first | exact .inl rfl | exact .inr ⟨_, _, _, rfl, rfl, rfl⟩) ?_ ?_
             · intro a w' he hr K hK
               obtain ⟨q1, k1, c1, h1, h2, h3⟩ := hr 26 (by simp [Oper.looksAt, Op.operands])
               simp at h1
               go_simp
               exact hK _ (Ext.refl _)
             simp only [setL, List.set_cons_succ, List.set_cons_zero])
          | (refine wpPL_det (o := ⟨some 39, _, _, _, _, _⟩) (v := .int .i64 EA) (by kernel_rfl) (by first | exact .inl rfl | exact .inr ⟨_, _, _, rfl, rfl, rfl⟩) ?_ ?_
             · intro a w' he hr K hK
               obtain ⟨q1, k1, c1, h1, h2, h3⟩ := hr 26 (by simp [Oper.looksAt, Op.operands])
               simp at h1
               go_simp
               exact hK _ (Ext.refl _)
             simp only [setL, List.set_cons_succ, List.set_cons_zero])
          | (refine wpPL_step (o := ⟨some 37, _, _, _, _, _⟩) (WrF WA) (WrF.stable _) (by first | exact .inr (AppF.strong _ _ _ _ (by decide)) | exact .inr (WrF.strong _ _ _ _ (by decide)) | exact .inr (RowsF.strong _ _ _ _ _ _ _ _ (by decide)) | exact .inr (Fresh.strong _ _ _ _ _ _ _ (by decide)) | exact .inr (IfcF.strong (Fresh.strong _ _ _ _ _ _ _ (by decide)) _) | exact .inl (by kernel_rfl)) (by kernel_rfl) (by first | exact .inl rfl | exact .inr ⟨_, _, _, rfl, rfl, rfl⟩) ?_ ?_
             · intro a w' he hr K hK
               obtain ⟨q1, k1, c1, h1, rfl, h3⟩ := hr 26 (by simp [Oper.looksAt, Op.operands])
               simp at h1
               go_simp
               exact hK _ _ (Ext.refl _) ⟨q1, c1, rfl, h3⟩
             simp only [setL, List.set_cons_succ, List.set_cons_zero])
          | (refine wpPL_pivot (o := ⟨none, _, _, _, _, _⟩) Any Any.stable (.inr Any.strong) (by kernel_rfl) (by first | exact .inl rfl | exact .inr ⟨_, _, _, rfl, rfl, rfl⟩) ?_ ?_
             · intro a w' he hr K hK
               obtain ⟨b, h1, h2, h3⟩ := hr 13 (by simp [Oper.looksAt, Op.operands])
               have hv := hr 36 (by simp [Oper.looksAt, Op.operands])
               refine wp_store_row 28 (.tmp 13) (.tmp 36) rfl b #[.int .i64 G.applied, .int .i64 G.count, .int .i64 G.fin, .int .i64 G.root, .int .i64 G.height, .int .i64 G.splits, .int .i64 G.areas] h1 hv _ _ h2 hdSize rfl (hd_one G) ?_
               exact hK _ _ ⟨b, _, h3, h2, Chg.setRow⟩ trivial (fun x hx _ y hy => by simp at hx; subst hx; simp at hy; subst hy; exact ⟨b, h1, Blk.setRow h2, h3⟩)
             simp only [setL, List.set_cons_succ, List.set_cons_zero])
          | (refine wpPL_move _ _ (by kernel_rfl) (by first | exact .inl rfl | exact .inr ⟨_, _, _, rfl, rfl, rfl⟩) (by first | exact .inl rfl | exact .inr rfl) rfl (by first | exact Is.stable _ | exact RowsF.stable _ _ _ _ _ | exact NoneF.stable _ _ | exact Fresh.stable _ _ _ | exact AppF.stable _ | exact WrF.stable _ | exact PtrF.stable _ _ | exact PlF.stable _ _) (by first | exact .inr (Is.strong _ _ _) | exact .inr (AppF.strong _ _ _ _ (by decide)) | exact .inr (WrF.strong _ _ _ _ (by decide)) | exact .inr (RowsF.strong _ _ _ _ _ _ _ _ (by decide)) | exact .inl (by kernel_rfl)) ?_
             simp only [setL, List.set_cons_succ, List.set_cons_zero, List.getD_cons_succ, List.getD_cons_zero])
          | (apply wpPL_det (by kernel_rfl) (by first | exact .inl rfl | exact .inr ⟨_, _, _, rfl, rfl, rfl⟩)
             · intro a w' he hr K hK
               simp [Reads, Oper.looksAt, Op.operands, Call.operands, factAt, Is] at hr
               have hx := he.cell
               go_simp
               try go_bits
               try (rw [if_neg (by omega)]; go_simp)
               first
                 | exact hK _ (Ext.refl _)
             simp only [setL, List.set_cons_succ, List.set_cons_zero]))
        intro w2 he2
        simp only [killL, killIn, List.foldl_cons, List.foldl_nil, List.set_cons_succ, List.set_cons_zero]
        repeat (first | with_reducible refine rest_is _ _ _ _ ?_ | (with_reducible refine rest_fact _ _ _ _ ?_; intro _ _) | with_reducible refine rest_end _ _ ?_)
        simp only [List.reverse_cons, List.reverse_nil, List.nil_append, List.cons_append]
        rename_i x13 h13 x14 h14 x26 h26 x35 h35 x37 h37
        obtain ⟨b13, rfl, hb13, hB13⟩ := h13
        obtain ⟨q14, c14, rfl, hw14⟩ := h14
        clear h26 h35 h37
        have hcka := (he2.cell b _ hbb).trans hck
        have hbba : b < w2.heap.size := Nat.lt_of_lt_of_le hbb he2.size
        have c3 : w2.cell? ⟨w.heap.size, 3, none⟩ = some (.int .i64 d.length) := Blk.val (he2.blk _ _ Hb2.out) 3 _ rfl
        have hE0 : (EA == 0) = true := by rw [HEA.out]; rfl
        have hE1 : (EA != 0) = false := by rw [HEA.out]; rfl
        have hl1I : decide ((1 : Int) ≤ r.length) = true := decide_eq_true (by omega)
        have hl1N : decide (1 ≤ r.length) = true := decide_eq_true hal.1
        have hl2I : decide ((r.length : Int) ≤ d.length) = true := decide_eq_true (by omega)
        go_upto_region 7 with (fail)
        go_quiet (fail)
        go_upto_region 10 with (fail)
        refine wp_name (fun w3 => Ext wr w3 ∧ HdAt w3 b13 G ∧ Wrts w3 q14 WA ∧ HdAt w3 hb H) ⟨he2.trans (Ext.drewN w2 nq), (Ext.drewN w2 nq).blk _ _ hb13, hw14.ext (Ext.drewN w2 nq), Hb5.out.ext (he2.trans (Ext.drewN w2 nq))⟩ ?_
        clear hb13 hw14 he2 hcka hck hbb hbba c3 hE0 hl1I hl1N hl2I
        rintro w3 ⟨he3, hb13, hw14, hb3⟩
        have d1 : w3.cell? ⟨b13, 1, none⟩ = some (.int .i64 G.count) := Blk.val hb13 1 _ rfl
        have d2 : w3.cell? ⟨b13, 2, none⟩ = some (.int .i64 G.fin) := Blk.val hb13 2 _ rfl
        have g1 : w3.cell? ⟨hb, 1, none⟩ = some (.int .i64 H.count) := Blk.val hb3 1 _ rfl
        have g2 : w3.cell? ⟨hb, 2, none⟩ = some (.int .i64 H.fin) := Blk.val hb3 2 _ rfl
        obtain ⟨hg3, hg4⟩ := hg3
        have k1 : (G.count != H.count + 1) = false := by rw [Hg1.out]; simp
        have k2 : decide (G.fin < H.fin) = false := decide_eq_false (by omega)
        have k3 : decide (AT ≤ lastA d.interval C) = false := decide_eq_false (by omega)
        have k4 : ((WA.length : Int) != 1) = false := by rw [HWl.out]; rfl
        have k5 : (WA.length != 1) = false := by rw [HWl.out]; rfl
        have Hlp := Lib.hid hla
        clear hla hg2
        generalize lastA d.interval C = LA at *
        have Hb13 := Lib.hid hb13
        have Hw14 := Lib.hid hw14
        have Hb3 := Lib.hid hb3
        have HE3 := Lib.hid he3
        have hz13 := Blk.lt hb13
        clear hb13 hw14 hb3 he3
        go_upto_region 12 with (fail)
        have HEx := Lib.hid (Hext.out.trans HE3.out)
        have Hb23 := Lib.hid (Hb2.out.ext HE3.out)
        have Hks3 := Lib.hid (Hks.out.ext HE3.out)
        have Hprs3 := Lib.hid (own_ext Hprs.out HE3.out)
        have hckc := (HE3.out.cell b _ hbb0).trans HCK.out
        have hbbc : b < w3.heap.size := Nat.lt_of_lt_of_le hbb0 HE3.out.size
        have hpl := recsA_len d.interval C
        have hpl2 : (pairsC d.interval C).length ≤ 1000 := by unfold pairsC; rw [List.length_map, hpl]; omega
        have HPu := Lib.hid (fun w' (e : Ext w3 w') => (Put_any ad q14 (memOf d.interval C).length cm WA.length c14 (memOf d.interval C) WA w' (Hsq0.out.ext (HE3.out.trans e)) rfl (Hw14.out.ext e) rfl (by omega) (by rw [HWl.out]; omega)).mono (show ∀ (e : Ending) (w'' : World), (Ext w' w'' ∧ ∃ v, e = .returned v ∧ w''.ownsRow w'.heap.size 9 1 v (putsP (memOf d.interval C) WA).length ((putsP (memOf d.interval C) WA).map fun s => .string ⟨s.toArray⟩)) → (∃ v, e = .returned v ∧ Ext w' w'' ∧ RowsF 9 w.heap.size 1 (memOf d.interval C').length ((memOf d.interval C').map fun s : List UInt8 => Value.string ⟨s.toArray⟩) v w'') from fun e' w'' ⟨h1, v, h2, h3⟩ => ⟨v, h2, h1, by rw [HPM.out] at h3; obtain ⟨q2, c2, rfl⟩ := own_slice h3; exact ⟨q2, c2, rfl, own_le h3 ((Hext.out.trans HE3.out).trans e).size⟩⟩))
        clear hpl d1 d2 g1 g2 k1 k2 k3 k4 k5 hg3 hg4 hE1
        go_wp2_with fail
        refine Pre.wp_region_pk 200 [(13, [(12, 102)]), (15, [(0, 90)])] (HEx.out) (by kernel_rfl) (by kernel_rfl) (by kernel_rfl) (by kernel_rfl) (by kernel_rfl) (by kernel_rfl) (gok_bld hb w (by omega) #[.int .i64 G.applied, .int .i64 G.count, .int .i64 G.fin, .int .i64 G.root, .int .i64 G.height, .int .i64 G.splits, .int .i64 G.areas] _ (.agg #[.int .i64 G.applied, .int .i64 G.count, .int .i64 G.fin, .int .i64 G.root, .int .i64 G.height, .int .i64 G.splits, .int .i64 G.areas]) (by kernel_rfl)) (prok_bld (b13 := b13) (cs := #[.int .i64 G.applied, .int .i64 G.count, .int .i64 G.fin, .int .i64 G.root, .int .i64 G.height, .int .i64 G.splits, .int .i64 G.areas]) (d := d) (w0 := w) (w3 := w3) (by kernel_rfl)) (fun p hp => by simp [pivB] at hp; rcases hp with rfl | rfl; simpa [PrB] using Ext.refl w3; simpa [PrB] using ⟨Hb13.out, ⟨_, Hb3.out, rfl⟩, Hb23.out, Hks3.out⟩) ?_
        simp only [List.take_succ_cons, List.take_zero, List.take_nil, List.drop_succ_cons, List.drop_zero, List.drop_nil, List.map_cons, List.map_nil]
        repeat (first
          | (refine Pre.wpPL_step (o := ⟨some 90, _, _, _, _, _⟩) (LdF hb (.agg #[.int .i64 G.applied, .int .i64 G.count, .int .i64 G.fin, .int .i64 G.root, .int .i64 G.height, .int .i64 G.splits, .int .i64 G.areas])) (LdF.stable _ _) (kL (by kernel_rfl)) (by kernel_rfl) (by first | exact .inl rfl | exact .inr ⟨_, _, _, rfl, rfl, rfl⟩) ?_ ?_
             · intro a w' he0 hp hr K hK
               obtain ⟨k13, khb, _, _⟩ := (hp 15 (by kernel_rfl) (by kernel_rfl)).at15
               simp [Reads, Oper.looksAt, Op.operands, Call.operands, factAt, Is] at hr
               exact wp_load_row 28 (.tmp 13) rfl b13 (by go_simp) _ _ _ _ k13 hdDesc rfl hdSize (hK _ _ (Ext.refl _) ⟨rfl, khb⟩)
             simp only [setL, List.set_cons_succ, List.set_cons_zero])
          | (refine Pre.wpPL_step (o := ⟨some 91, _, _, _, _, _⟩) (EnvF w d (.slice (some ad) (memOf d.interval C).length cm)) (EnvF.stable _ _ _) (kE hwb) (by kernel_rfl) (by first | exact .inl rfl | exact .inr ⟨_, _, _, rfl, rfl, rfl⟩) ?_ ?_
             · intro a w' he0 hp hr K hK
               have he := (hp 13 (by kernel_rfl) (by kernel_rfl)).at13
               simp [Reads, Oper.looksAt, Op.operands, Call.operands, factAt, Is] at hr
               go_simp
               exact hK _ _ (Ext.refl _) ⟨rfl, Hb23.out.ext he, Hks3.out.ext he⟩
             simp only [setL, List.set_cons_succ, List.set_cons_zero])
          | (refine Pre.wpPL_step (o := ⟨some 93, _, _, _, _, _⟩) (RowsF 9 w.heap.size 1 (memOf d.interval C').length ((memOf d.interval C').map fun s : List UInt8 => Value.string ⟨s.toArray⟩)) (RowsF.stable _ _ _ _ _) kR (by kernel_rfl) (by first | exact .inl rfl | exact .inr ⟨_, _, _, rfl, rfl, rfl⟩) ?_ ?_
             · intro a w' he0 hp hr K hK
               have he := (hp 13 (by kernel_rfl) (by kernel_rfl)).at13
               obtain ⟨h1, _, _⟩ := hr 91 (by simp [Oper.looksAt, Op.operands, Call.operands])
               simp [Reads, Oper.looksAt, Op.operands, Call.operands, factAt, Is] at hr
               simp at h1
               go_simp
               refine (HPu.out w' he).mono ?_
               rintro e w'' ⟨v, rfl, he', hf⟩
               exact hK _ _ he' hf
             simp only [setL, List.set_cons_succ, List.set_cons_zero])
          | (refine Pre.wpPL_step (o := ⟨some 102, _, _, _, _, _⟩) (Fresh 1 1 (.cells #[.string ⟨(slotL AT).toArray⟩, .string ⟨r.toArray⟩] 61)) (Fresh.stable _ _ _) (kF (by kernel_rfl)) (by kernel_rfl) (by first | exact .inl rfl | exact .inr ⟨_, _, _, rfl, rfl, rfl⟩) ?_ ?_
             · intro a w' he0 hp hr K hK
               have he := (hp 13 (by kernel_rfl) (by kernel_rfl)).at13
               simp [Reads, Oper.looksAt, Op.operands, Call.operands, factAt, Is] at hr
               go_simp
               exact hK _ _ (Ext.alloc _ _) (Fresh.new _ _ _ _)
             simp only [setL, List.set_cons_succ, List.set_cons_zero])
          | (refine Pre.wpPL_pivot (o := ⟨some 103, _, _, _, _, _⟩) (RowsF 61 w.heap.size 2 ((pairsC d.interval C).length + 1) (prCells (pairsC d.interval C) ++ [.string ⟨(slotL AT).toArray⟩, .string ⟨r.toArray⟩])) (RowsF.stable _ _ _ _ _) (kP (by kernel_rfl)) (by kernel_rfl) (by first | exact .inl rfl | exact .inr ⟨_, _, _, rfl, rfl, rfl⟩) ?_ ?_
             · intro a w' he0 hp hr K hK
               have he := (hp 13 (by kernel_rfl) (by kernel_rfl)).at13
               have h1 := hr 94 (by simp [Oper.looksAt, Op.operands, Call.operands])
               obtain ⟨b, hb1, hb2⟩ := hr 102 (by simp [Oper.looksAt, Op.operands, Call.operands])
               refine wp_app (.tmp 94) (.tmp 102) 40 61 rfl w.heap.size _ 2 32 Tryd.underlying40 infoPair rfl (by decide) _ (pairsC d.interval C).length _ h1 (own_ext Hprs3.out he) b [.string ⟨(slotL AT).toArray⟩, .string ⟨r.toArray⟩] hb1 hb2 rfl (by intro u hu; simp at hu; rcases hu with rfl | rfl <;> rfl) (by omega) (by decide) he0.size ?_
               intro v' w'' ho' hg
               obtain ⟨q', c', rfl⟩ := own_slice ho'
               exact hK _ _ (rp_of hg (own_ext Hprs3.out he) he0.size) ⟨q', c', rfl, ho'⟩ (fun x hx hxi y hy => by simp at hx; rcases hx with rfl | rfl; trivial; simp at hxi)
             simp only [setL, List.set_cons_succ, List.set_cons_zero])
          | (refine Pre.wpPL_pivot (o := ⟨none, _, _, _, _, _⟩) Any Any.stable (fun _ _ => .inr fun _ _ _ _ h => h) (by kernel_rfl) (by first | exact .inl rfl | exact .inr ⟨_, _, _, rfl, rfl, rfl⟩) ?_ ?_
             · intro a w' he0 hp hr K hK
               have h0 := hr 8 (by simp [Oper.looksAt, Op.operands])
               obtain ⟨h1, old, hk1, hk2⟩ := hr 90 (by simp [Oper.looksAt, Op.operands])
               refine wp_store_row 28 (.tmp 8) (.tmp 90) rfl hb #[.int .i64 G.applied, .int .i64 G.count, .int .i64 G.fin, .int .i64 G.root, .int .i64 G.height, .int .i64 G.splits, .int .i64 G.areas] h0 h1 _ old hk1 hdSize (by rw [hk2]; rfl) (hd_one G) ?_
               exact hK _ _ ⟨⟨_, hk1⟩, Chg.setRow⟩ trivial (fun x hx hxi y hy => by simp at hx; rcases hx with rfl | rfl; simp at hxi; simp at hy; subst hy; exact ⟨h1, Blk.setRow hk1⟩)
             simp only [setL, List.set_cons_succ, List.set_cons_zero])
          | (refine Pre.wpPL_move _ _ (by kernel_rfl) (by first | exact .inl rfl | exact .inr ⟨_, _, _, rfl, rfl, rfl⟩) (by first | exact .inl rfl | exact .inr rfl) rfl (by first | exact Is.stable _ | exact RowsF.stable _ _ _ _ _ | exact NoneF.stable _ _ | exact Fresh.stable _ _ _ | exact AppF.stable _ | exact WrF.stable _ | exact PtrF.stable _ _ | exact PlF.stable _ _) (by first | exact Pre.KeepsP.is _ _ _ _ _ _ | exact kR | exact kP (by kernel_rfl)) ?_
             simp only [setL, List.set_cons_succ, List.set_cons_zero, List.getD_cons_succ, List.getD_cons_zero])
          | (apply Pre.wpPL_det (fun k v => Pre.KeepsP.is _ _ _ _ k v) (by kernel_rfl) (by first | exact .inl rfl | exact .inr ⟨_, _, _, rfl, rfl, rfl⟩)
             · intro a w' he0 hp hr K hK
               have he := PrB.at13 <| hp 13 (by kernel_rfl) (by kernel_rfl)
               simp [Reads, Oper.looksAt, Op.operands, Call.operands, factAt, Is] at hr
               have hx := he.cell
               go_simp
               try go_bits
               try (rw [if_neg (by omega)]; go_simp)
               first
                 | exact hK _ (Ext.refl _)
                 | (refine (Slot_ref AT _).mono ?_; rintro e w'' ⟨rfl, he'⟩; exact hK _ he')
             simp only [setL, List.set_cons_succ, List.set_cons_zero]))
        intro w2 he2
        simp only [killL, killIn, List.foldl_cons, List.foldl_nil, List.set_cons_succ, List.set_cons_zero]
        repeat (first | with_reducible refine rest_is _ _ _ _ ?_ | (with_reducible refine rest_fact _ _ _ _ ?_; intro _ _) | with_reducible refine rest_end _ _ ?_)
        simp only [List.reverse_cons, List.reverse_nil, List.nil_append, List.cons_append]
        rename_i x9 h9 x10 h10 x90 h90 x91 h91 x93 h93 x102 h102 x103 h103
        obtain ⟨q9, c9, rfl, ho9⟩ := h9
        obtain ⟨q10, c10, rfl, ho10⟩ := h10
        have h90' : HbF hb (.agg #[.int .i64 G.applied, .int .i64 G.count, .int .i64 G.fin, .int .i64 G.root, .int .i64 G.height, .int .i64 G.splits, .int .i64 G.areas]) #[.int .i64 G.applied, .int .i64 G.count, .int .i64 G.fin, .int .i64 G.root, .int .i64 G.height, .int .i64 G.splits, .int .i64 G.areas] x90 w2 := h90
        obtain ⟨hx90, hbn⟩ := h90'
        obtain ⟨hx91, hbd, hbk⟩ := h91
        clear h90 h93 h102 h103 hx90 hx91
        have e1 : (pairsC d.interval C').length = (pairsC d.interval C).length + 1 := by rw [HPC.out]; simp
        have e2 : prCells (pairsC d.interval C') = prCells (pairsC d.interval C) ++ [.string ⟨(slotL AT).toArray⟩, .string ⟨r.toArray⟩] := by rw [HPC.out]; simp [prCells]
        have HB := Lib.hid (show BldIn w hb d C' (.slice q9 (memOf d.interval C').length c9) (.slice q10 ((pairsC d.interval C).length + 1) c10) w2 from ⟨he2, by rw [← HGd.out]; exact hbn, hbd, hbk, ho9, by rw [e1, e2]; exact ho10⟩)
        clear ho9 ho10 hbn hbd hbk e1 e2
        go_wp2_with fail
        go_roundw
        case rel => exact ⟨j + 1, by omega, by go_num, by rw [HS.out, HN.out, HLA.out], by rw [HS.out, HN.out]; exact HB.out⟩
        case measure => simp [intOf]; omega
      · rw [if_neg hal] at hAM
        rw [hAM] at HA1
        have HN : Hid (stepC d C r = C) := Lib.hid (by unfold stepC; rw [if_neg hal])
        obtain ⟨G, hG⟩ : ∃ G : Hd, G = Hd.zero := ⟨_, rfl⟩
        obtain ⟨H, hH⟩ : ∃ H : Hd, H = hdOf C := ⟨_, rfl⟩
        have hRe : AppRes.err 2 = ⟨G, [], 0, 2⟩ := by rw [hG]; rfl
        rw [hRe, ← hH] at HA1
        rw [← hH] at Hb5
        obtain ⟨WA, hWA⟩ : ∃ WA : List (Int × List UInt8), WA = [] := ⟨_, rfl⟩
        obtain ⟨AT, hAT⟩ : ∃ AT : Int, AT = 0 := ⟨_, rfl⟩
        obtain ⟨EA, hEA⟩ : ∃ EA : Int, EA = 2 := ⟨_, rfl⟩
        rw [← hWA, ← hAT, ← hEA] at HA1
        have HEA := Lib.hid hEA
        have HHd := Lib.hid hH
        clear hAM hRe hG hH hWA hAT hEA
        go_upto_region 6 with (fail)
        refine wp_region_pk 200 [(15, [(14, 13)])] (Ext.refl wr) (by kernel_rfl) (by kernel_rfl) (by kernel_rfl) (by kernel_rfl) (by kernel_rfl) (by kernel_rfl) (gok_one _ _ 15 14 13 (TChg wr.heap.size 28) (PtrF wr.heap.size (.cells #[.int .i64 G.applied, .int .i64 G.count, .int .i64 G.fin, .int .i64 G.root, .int .i64 G.height, .int .i64 G.splits, .int .i64 G.areas] 28)) (fun _ _ h => h.below) (PtrF.stable _ _) (by kernel_rfl)) ?_
        simp only [List.take_succ_cons, List.take_zero, List.take_nil, List.drop_succ_cons, List.drop_zero, List.drop_nil, List.map_cons, List.map_nil]
        repeat (first
          | (refine wpPL_step (o := ⟨some 13, _, _, _, _, _⟩) (PtrF wr.heap.size (.cells #[.int .i64 0, .int .i64 0, .int .i64 0, .int .i64 0, .int .i64 0, .int .i64 0, .int .i64 0] 28)) (PtrF.stable _ _) (by first | exact .inr (AppF.strong _ _ _ _ (by decide)) | exact .inr (WrF.strong _ _ _ _ (by decide)) | exact .inr (RowsF.strong _ _ _ _ _ _ _ _ (by decide)) | exact .inr (Fresh.strong _ _ _ _ _ _ _ (by decide)) | exact .inr (IfcF.strong (Fresh.strong _ _ _ _ _ _ _ (by decide)) _) | exact .inl (by kernel_rfl)) (by kernel_rfl) (by first | exact .inl rfl | exact .inr ⟨_, _, _, rfl, rfl, rfl⟩) ?_ ?_
             · intro a w' he hr K hK
               go_simp
               exact hK _ _ (Ext.alloc _ _) ⟨_, rfl, Blk.new _ _, he.size⟩
             simp only [setL, List.set_cons_succ, List.set_cons_zero])
          | (refine wpPL_det (o := ⟨some 29, _, _, _, _, _⟩) (v := .agg #[.int .i64 H.applied, .int .i64 H.count, .int .i64 H.fin, .int .i64 H.root, .int .i64 H.height, .int .i64 H.splits, .int .i64 H.areas]) (by kernel_rfl) (by first | exact .inl rfl | exact .inr ⟨_, _, _, rfl, rfl, rfl⟩) ?_ ?_
             · intro a w' he hr K hK
               simp [Reads, Oper.looksAt, Op.operands, factAt, Is] at hr
               exact wp_load_row 28 (.tmp 8) rfl (hb) (by go_simp) _ _ _ _ (he.blk _ _ Hb5.out) hdDesc rfl hdSize (hK _ (Ext.refl _))
             simp only [setL, List.set_cons_succ, List.set_cons_zero])
          | (refine wpPL_det (o := ⟨some 30, _, _, _, _, _⟩) (v := .agg #[.int .i64 d.id, .int .i64 d.org, .int .i64 d.format, .int .i64 d.length, .int .i64 d.block, .int .i64 d.keyAt, .int .i64 d.keyLength, .int .i64 d.interval, .int .i64 d.area, .int .i64 d.freeInterval, .int .i64 d.freeArea, .int .i64 d.base, .int .i64 d.altAt, .int .i64 d.altLength, .bool d.unique, .int .i64 d.cls, .string ⟨d.volume.toArray⟩, .string ⟨d.owner.toArray⟩, .int .i64 d.created, .int .i64 d.expires, .bool d.archived]) (by kernel_rfl) (by first | exact .inl rfl | exact .inr ⟨_, _, _, rfl, rfl, rfl⟩) ?_ ?_
             · intro a w' he hr K hK
               simp [Reads, Oper.looksAt, Op.operands, factAt, Is] at hr
               exact wp_load_row 23 (.tmp 2) rfl (w.heap.size) (by go_simp) _ _ _ _ (he.blk _ _ Hb2.out) dsDesc rfl dsSize (hK _ (Ext.refl _))
             simp only [setL, List.set_cons_succ, List.set_cons_zero])
          | (refine wpPL_step (o := ⟨some 35, _, _, _, _, _⟩) (AppF ⟨G, WA, AT, EA⟩) (AppF.stable _) (by first | exact .inr (AppF.strong _ _ _ _ (by decide)) | exact .inr (WrF.strong _ _ _ _ (by decide)) | exact .inr (RowsF.strong _ _ _ _ _ _ _ _ (by decide)) | exact .inr (Fresh.strong _ _ _ _ _ _ _ (by decide)) | exact .inr (IfcF.strong (Fresh.strong _ _ _ _ _ _ _ (by decide)) _) | exact .inl (by kernel_rfl)) (by kernel_rfl) (by first | exact .inl rfl | exact .inr ⟨_, _, _, rfl, rfl, rfl⟩) ?_ ?_
             · intro a w' he hr K hK
               simp [Reads, Oper.looksAt, Op.operands, Call.operands, factAt, Is] at hr
               go_simp
               refine ((HA1.out w' he)).mono ?_
               rintro e w'' ⟨v, rfl, he', hf⟩
               exact hK _ _ he' hf
             simp only [setL, List.set_cons_succ, List.set_cons_zero])
          | (refine wpPL_det (o := ⟨some 36, _, _, _, _, _⟩) (v := .agg #[.int .i64 G.applied, .int .i64 G.count, .int .i64 G.fin, .int .i64 G.root, .int .i64 G.height, .int .i64 G.splits, .int .i64 G.areas]) (by kernel_rfl) (by first | exact .inl rfl | exact .inr ⟨_, _, _, rfl, rfl, rfl⟩) ?_ ?_
             · intro a w' he hr K hK
               obtain ⟨q1, k1, c1, h1, h2, h3⟩ := hr 26 (by simp [Oper.looksAt, Op.operands])
               simp at h1
               go_simp
               exact hK _ (Ext.refl _)
             simp only [setL, List.set_cons_succ, List.set_cons_zero])
          | (refine wpPL_det (o := ⟨some 38, _, _, _, _, _⟩) (v := .int .i64 AT) (by kernel_rfl) (by first | exact .inl rfl | exact .inr ⟨_, _, _, rfl, rfl, rfl⟩) ?_ ?_
             · intro a w' he hr K hK
               obtain ⟨q1, k1, c1, h1, h2, h3⟩ := hr 26 (by simp [Oper.looksAt, Op.operands])
               simp at h1
               go_simp
               exact hK _ (Ext.refl _)
             simp only [setL, List.set_cons_succ, List.set_cons_zero])
          | (refine wpPL_det (o := ⟨some 39, _, _, _, _, _⟩) (v := .int .i64 EA) (by kernel_rfl) (by first | exact .inl rfl | exact .inr ⟨_, _, _, rfl, rfl, rfl⟩) ?_ ?_
             · intro a w' he hr K hK
               obtain ⟨q1, k1, c1, h1, h2, h3⟩ := hr 26 (by simp [Oper.looksAt, Op.operands])
               simp at h1
               go_simp
               exact hK _ (Ext.refl _)
             simp only [setL, List.set_cons_succ, List.set_cons_zero])
          | (refine wpPL_step (o := ⟨some 37, _, _, _, _, _⟩) (WrF WA) (WrF.stable _) (by first | exact .inr (AppF.strong _ _ _ _ (by decide)) | exact .inr (WrF.strong _ _ _ _ (by decide)) | exact .inr (RowsF.strong _ _ _ _ _ _ _ _ (by decide)) | exact .inr (Fresh.strong _ _ _ _ _ _ _ (by decide)) | exact .inr (IfcF.strong (Fresh.strong _ _ _ _ _ _ _ (by decide)) _) | exact .inl (by kernel_rfl)) (by kernel_rfl) (by first | exact .inl rfl | exact .inr ⟨_, _, _, rfl, rfl, rfl⟩) ?_ ?_
             · intro a w' he hr K hK
               obtain ⟨q1, k1, c1, h1, rfl, h3⟩ := hr 26 (by simp [Oper.looksAt, Op.operands])
               simp at h1
               go_simp
               exact hK _ _ (Ext.refl _) ⟨q1, c1, rfl, h3⟩
             simp only [setL, List.set_cons_succ, List.set_cons_zero])
          | (refine wpPL_pivot (o := ⟨none, _, _, _, _, _⟩) Any Any.stable (.inr Any.strong) (by kernel_rfl) (by first | exact .inl rfl | exact .inr ⟨_, _, _, rfl, rfl, rfl⟩) ?_ ?_
             · intro a w' he hr K hK
               obtain ⟨b, h1, h2, h3⟩ := hr 13 (by simp [Oper.looksAt, Op.operands])
               have hv := hr 36 (by simp [Oper.looksAt, Op.operands])
               refine wp_store_row 28 (.tmp 13) (.tmp 36) rfl b #[.int .i64 G.applied, .int .i64 G.count, .int .i64 G.fin, .int .i64 G.root, .int .i64 G.height, .int .i64 G.splits, .int .i64 G.areas] h1 hv _ _ h2 hdSize rfl (hd_one G) ?_
               exact hK _ _ ⟨b, _, h3, h2, Chg.setRow⟩ trivial (fun x hx _ y hy => by simp at hx; subst hx; simp at hy; subst hy; exact ⟨b, h1, Blk.setRow h2, h3⟩)
             simp only [setL, List.set_cons_succ, List.set_cons_zero])
          | (refine wpPL_move _ _ (by kernel_rfl) (by first | exact .inl rfl | exact .inr ⟨_, _, _, rfl, rfl, rfl⟩) (by first | exact .inl rfl | exact .inr rfl) rfl (by first | exact Is.stable _ | exact RowsF.stable _ _ _ _ _ | exact NoneF.stable _ _ | exact Fresh.stable _ _ _ | exact AppF.stable _ | exact WrF.stable _ | exact PtrF.stable _ _ | exact PlF.stable _ _) (by first | exact .inr (Is.strong _ _ _) | exact .inr (AppF.strong _ _ _ _ (by decide)) | exact .inr (WrF.strong _ _ _ _ (by decide)) | exact .inr (RowsF.strong _ _ _ _ _ _ _ _ (by decide)) | exact .inl (by kernel_rfl)) ?_
             simp only [setL, List.set_cons_succ, List.set_cons_zero, List.getD_cons_succ, List.getD_cons_zero])
          | (apply wpPL_det (by kernel_rfl) (by first | exact .inl rfl | exact .inr ⟨_, _, _, rfl, rfl, rfl⟩)
             · intro a w' he hr K hK
               simp [Reads, Oper.looksAt, Op.operands, Call.operands, factAt, Is] at hr
               have hx := he.cell
               go_simp
               try go_bits
               try (rw [if_neg (by omega)]; go_simp)
               first
                 | exact hK _ (Ext.refl _)
             simp only [setL, List.set_cons_succ, List.set_cons_zero]))
        intro w2 he2
        simp only [killL, killIn, List.foldl_cons, List.foldl_nil, List.set_cons_succ, List.set_cons_zero]
        repeat (first | with_reducible refine rest_is _ _ _ _ ?_ | (with_reducible refine rest_fact _ _ _ _ ?_; intro _ _) | with_reducible refine rest_end _ _ ?_)
        simp only [List.reverse_cons, List.reverse_nil, List.nil_append, List.cons_append]
        rename_i x13 h13 x14 h14 x26 h26 x35 h35 x37 h37
        obtain ⟨b13, rfl, hb13, hB13⟩ := h13
        obtain ⟨q14, c14, rfl, hw14⟩ := h14
        clear h26 h35 h37 hb13 hw14 hB13
        have hcka := (he2.cell b _ hbb).trans hck
        have hbba : b < w2.heap.size := Nat.lt_of_lt_of_le hbb he2.size
        have c3 : w2.cell? ⟨w.heap.size, 3, none⟩ = some (.int .i64 d.length) := Blk.val (he2.blk _ _ Hb2.out) 3 _ rfl
        have hE0 : (EA == 0) = false := by rw [HEA.out]; rfl
        have hE1 : (EA != 0) = true := by rw [HEA.out]; rfl
        have HE2 := Lib.hid he2
        clear he2 hck hbb
        by_cases hl1 : 1 ≤ r.length
        · have hl1I : decide ((1 : Int) ≤ r.length) = true := decide_eq_true (by omega)
          have hl1N : decide (1 ≤ r.length) = true := decide_eq_true hl1
          have hl2I : decide ((r.length : Int) ≤ d.length) = false := decide_eq_false (by omega)
          clear hal hl1
          go_wp2_with fail
          go_quiet (fail)
          go_wp2_with fail
          go_roundw
          case rel => exact ⟨j + 1, by omega, by go_num, by rw [HS.out, HN.out], by rw [HS.out, HN.out]; have hx := HE2.out.trans (Ext.drewN w2 nq); exact ⟨Hext.out.trans hx, by rw [← HHd.out]; exact Hb5.out.ext hx, Hb2.out.ext hx, Hks.out.ext hx, own_ext Hrow.out hx, own_ext Hprs.out hx⟩⟩
          case measure => simp [intOf]; omega
        · have hl1I : decide ((1 : Int) ≤ r.length) = false := decide_eq_false (by omega)
          have hl1N : decide (1 ≤ r.length) = false := decide_eq_false hl1
          clear hal hl1
          go_wp2_with fail
          go_quiet (fail)
          go_wp2_with fail
          go_roundw
          case rel => exact ⟨j + 1, by omega, by go_num, by rw [HS.out, HN.out], by rw [HS.out, HN.out]; have hx := HE2.out.trans (Ext.drewN w2 nq); exact ⟨Hext.out.trans hx, by rw [← HHd.out]; exact Hb5.out.ext hx, Hb2.out.ext hx, Hks.out.ext hx, own_ext Hrow.out hx, own_ext Hprs.out hx⟩⟩
          case measure => simp [intOf]; omega
    · have hltI : decide ((j : Int) < L.length) = false := decide_eq_false (by omega)
      obtain rfl : j = L.length := by omega
      rw [List.take_length] at hin
      obtain ⟨hext, hb5, hb2, hks, hrow, hprs⟩ := hin
      generalize builtC d L = C at *
      obtain ⟨qm, cm, rfl, _, _, _, _⟩ := own_strs_p hrow
      obtain ⟨qp, cp, rfl⟩ := own_slice hprs
      have Hext := Lib.hid hext
      have Hrow := Lib.hid hrow
      have Hprs := Lib.hid hprs
      obtain ⟨H, hH⟩ : ∃ H : Hd, H = hdOf C := ⟨_, rfl⟩
      rw [← hH] at hb5
      have HHd := Lib.hid hH
      obtain ⟨old, hk1, hk2⟩ := hks
      clear hext hrow hprs hH hb2
      go_wp2_with (first | (refine wpList_hd rfl (.tmp 8) rfl _ rfl H hb5 ?_) | (refine wpList_put rfl 28 (.tmp 4) (.tmp 105) rfl _ #[.int .i64 H.applied, .int .i64 H.count, .int .i64 H.fin, .int .i64 H.root, .int .i64 H.height, .int .i64 H.splits, .int .i64 H.areas] rfl rfl _ _ hk1 hdSize (by rw [hk2]; rfl) (hd_one H) ?_; intro w6 hb6 hc6))
      obtain rfl := HHd.out
      exact bodyPost_ret (results_row3 Tryd.results18 _ _ _ _ _ _ rfl hb6 hdDesc rfl hdSize) rfl ⟨hc6.ext Hext.out (by omega), _, _, _, _, _, _, rfl, own_chgT Hrow.out (by decide) hk1 hc6, own_chgT Hprs.out (by decide) hk1 hc6⟩
end Go.Proofs.YtkhlglkipeoalaaDoor
