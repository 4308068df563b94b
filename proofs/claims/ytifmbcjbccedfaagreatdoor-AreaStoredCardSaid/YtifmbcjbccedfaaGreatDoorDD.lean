/- A part of the proof. -/
import Derived.Test.YtifmbcjbccedfaaGreatDoorDC

set_option linter.unusedSimpArgs false
set_option linter.unusedVariables false
namespace Go.Proofs.YtifmbcjbccedfaaGreatDoor
open Go.RowKit Dsd
theorem ext_grown {a b c : World} {g : Nat} (h : Ext a b) (k : b.grownBy c (some g)) (hg : a.heap.size ≤ g) : Ext a c :=
 ⟨k.os.trans h.os, k.tape.trans h.tape, k.output.trans h.output, Nat.le_trans h.size k.size, fun i hi => (k.block i (Nat.lt_of_lt_of_le hi h.size) (by simp; omega)).trans (h.block i hi)⟩
theorem parse_rest (data : List UInt8) : ∀ k, (parseTo data k).rest.length ≤ data.length
 | 0 => by simp [parseTo]
 | k + 1 => by
   have := parse_rest data k
   simp only [parseTo, stepN, restP, List.length_drop]
   omega
theorem own_cellsND {w : World} {B : Nat} {e : TypeId} {n c : Nat} {q : Option Addr} {L : List Ent} (h : w.ownsRow B e 2 (.slice q n c) n (entCells L)) : Nents w q L := by
 obtain ⟨hl, ⟨hv, h0⟩ | ⟨g', cap, cur, hv, h1, h2, h3, h4, h5, h6⟩⟩ := h
 · cases hv
   exact .inl (List.eq_nil_of_length_eq_zero (by omega))
 · simp only [Value.slice.injEq] at hv
   obtain ⟨rfl, _, rfl⟩ := hv
   exact cells_take h2 h6
theorem encNS_okD {size : Int} {n : Nd} (h : encNE size n = 0) : encNS size n = encN size n := by unfold encNS; rw [if_pos h]
theorem ndZ_built : Tryz.prog.built 26 [] = some #[.int .i64 0, .int .i64 0, .slice none 0 0] := by kernel_rfl
theorem entCells_snoc (L : List Ent) (x : Ent) : entCells (L ++ [x]) = entCells L ++ [.string ⟨x.1.toArray⟩, .int .i64 x.2] := by unfold entCells; rw [List.flatMap_append]; rfl
theorem entBuilt (s : ByteArray) (k : Int) : Tryz.prog.built 63 [(0, .string s), (1, .int .i64 k)] = some #[.string s, .int .i64 k] := by kernel_rfl
theorem ndBlk {w : World} {a b : Nat} {cs ds : Array Value} {t u : TypeId} (h : Blk w a (.cells cs t)) (k : Blk w b (.cells ds u)) (hne : t ≠ u) : a ≠ b := fun e => by
 subst e
 have h1 := Option.some.inj (h.symm.trans k)
 injection h1 with _ h2
 exact hne h2
def cutD (w : World) (B : Nat) : World := { w with heap := w.heap.extract 0 B }
theorem cutD_ext (w : World) (B : Nat) : Ext (cutD w B) w := by
 refine ⟨rfl, rfl, rfl, ?_, fun k hk => ?_⟩
 · simp [cutD]; omega
 · simp [cutD] at hk ⊢
   simp [Array.getElem?_extract, show k < B by omega, show k < w.heap.size by omega]
   omega
theorem cutD_size {w : World} {B : Nat} (h : B ≤ w.heap.size) : (cutD w B).heap.size = B := by simp [cutD]; omega
def RTy (B : Nat) (T : TypeId) : Rel := fun w w' => Below B w w' ∧ ∀ b cs t, t ≠ T → Blk w b (.cells cs t) → Blk w' b (.cells cs t)
theorem own_rty {B : Nat} {T : TypeId} {w w' : World} {base : Nat} {e : TypeId} {size : Nat} {v : Value} {n : Nat} {xs : List Value} (h : w.ownsRow base e size v n xs) (hne : e ≠ T) (c : RTy B T w w') : w'.ownsRow base e size v n xs := by
 refine ⟨h.1, ?_⟩
 rcases h.2 with hn | ⟨b, cap, cur, rfl, hb, hg, rest⟩
 · exact .inl hn
 · exact .inr ⟨b, cap, cur, rfl, hb, c.2 b cur e hne hg, rest⟩
theorem rty_chg {B b : Nat} {T : TypeId} {w w' : World} {cs : Array Value} (h : Blk w b (.cells cs T)) (hB : B ≤ b) (c : Chg b w w') : RTy B T w w' :=
 ⟨⟨c.os, c.tape, c.output, by rw [c.size]; have := Blk.lt h; omega, fun k hk => c.block k (by omega)⟩, fun b' cs' t hne h' => c.blk h' (ndBlk h' h hne)⟩
theorem rty_grown {B b : Nat} {T : TypeId} {w w' : World} {cs : Array Value} (h : Blk w b (.cells cs T)) (hB : B ≤ b) (c : w.grownBy w' (some b)) : RTy B T w w' :=
 ⟨⟨c.os, c.tape, c.output, by have := c.size; have := Blk.lt h; omega, fun k hk => c.block k (by have := Blk.lt h; omega) (by simp; omega)⟩, fun b' cs' t hne h' => Blk.grown h' c (by
   have := ndBlk h' h hne
   simp; exact fun e => this e.symm)⟩
theorem rty_app {w w' : World} {B size n : Nat} {T : TypeId} {v : Value} {xs : List Value} (hg : w.grownBy w' v.ownBlock) (ho : w.ownsRow B T size v n xs) (hB : B ≤ w.heap.size) : RTy B T w w' := by
 refine ⟨Below.of_grown hg ho (Nat.le_refl _) hB, fun b cs t hne hb => (hg.block b (Blk.lt hb) (fun e => ?_)).trans hb⟩
 obtain ⟨_, ⟨rfl, _⟩ | ⟨g, cap, cur, rfl, _, hgg, _⟩⟩ := ho
 · simp [Value.ownBlock] at e
 · simp [Value.ownBlock] at e
   exact ndBlk hb hgg hne e
def RD (B nb : Nat) (old : Array Value) : Nat → Rel := fun i => if i = 4 then RTy B 112 else if i = 7 then (fun w w' => RTy B 63 w w' ∧ Blk w nb (.cells old 26)) else RTy B 26
def PrD (B rb nb : Nat) (r3 : List UInt8) (old : Array Value) (q : Option Addr) (k c : Nat) (es : List Ent) : Nat → World → Prop := fun p w =>
 (p = 4 → Blk w rb (.cells #[.string ⟨r3.toArray⟩] 112)) ∧ (p = 7 → w.ownsRow B 63 2 (.slice q k c) k (entCells es)) ∧ (p = 9 → Blk w nb (.cells old 26))
def EndR (rb : Nat) (r4 : List UInt8) : Fact := fun _ w => Blk w rb (.cells #[.string ⟨r4.toArray⟩] 112)
def EndN (B nb k : Nat) (lv nx : Int) (es : List Ent) : Fact := fun _ w => ∃ q' c', Blk w nb (.cells #[.int .i64 lv, .int .i64 nx, .slice q' (k + 1) c'] 26) ∧ w.ownsRow B 63 2 (.slice q' (k + 1) c') (k + 1) (entCells es)
def GD (B rb nb k : Nat) (r4 : List UInt8) (lv nx : Int) (es : List Ent) : Nat → Nat → Fact := fun p _ => if p = 4 then EndR rb r4 else if p = 9 then EndN B nb k lv nx es else Any
theorem gok_D {l : List Oper} {w0 : World} {B rb nb k c : Nat} {q : Option Addr} {r4 : List UInt8} {lv nx : Int} {es : List Ent} (hB : w0.heap.size ≤ B) (m3 : mustB .any l 3 4 = true) (m8 : mustB .any l 8 9 = true) :
   GOk l w0 [(4, [(3, 48)]), (7, [(1, 46), (6, 51)]), (9, [(8, 53)])] (RD B nb #[.int .i64 lv, .int .i64 nx, .slice q k c]) (GD B rb nb k r4 lv nx es) := by
 refine ⟨fun i w w' h => ?_, fun i j => ?_, fun p j i hk hp hne x a b h hx => ?_, fun p j hk => ?_⟩
 · have hb : Below B w w' := by
     unfold RD at h
     split at h
     · exact h.1
     · split at h
       · exact h.1.1
       · exact h.1
   exact ⟨hb.os, hb.tape, hb.output, hb.size, fun k hk => hb.block k (by omega)⟩
 · unfold GD
   split
   · exact fun _ _ _ he h => he.blk _ _ h
   · split
     · exact fun _ _ _ he ⟨q', c', h1, h2⟩ => ⟨q', c', he.blk _ _ h1, own_ext h2 he⟩
     · exact Any.stable
 · simp [killB] at hk
   simp [pivB] at hp
   unfold GD at hx ⊢
   rcases hk with ⟨rfl, _⟩ | ⟨rfl, _⟩ | ⟨rfl, _⟩
   · rw [if_pos rfl] at hx ⊢
     unfold RD at h
     rw [if_neg hne] at h
     split at h
     · exact h.1.2 _ _ _ (by decide) hx
     · exact h.2 _ _ _ (by decide) hx
   · trivial
   · rw [if_neg (by decide), if_pos rfl] at hx ⊢
     obtain ⟨q', c', h1, h2⟩ := hx
     rcases hp with rfl | rfl | rfl
     · exact ⟨q', c', h.2 _ _ _ (by decide) h1, own_rty h2 (by decide) h⟩
     · obtain ⟨_, h3⟩ := h
       have h4 := Option.some.inj (h1.symm.trans h3)
       simp at h4
     · exact absurd rfl hne
 · simp [killB] at hk
   unfold GD
   rcases hk with ⟨rfl, rfl⟩ | ⟨rfl, _⟩ | ⟨rfl, rfl⟩
   · exact .inr m3
   · exact .inl rfl
   · exact .inr m8
theorem prok_D {l : List Oper} {N B rb nb k c : Nat} {q : Option Addr} {r3 : List UInt8} {lv nx : Int} {es : List Ent} (m1 : mustB .any l 4 7 = true) (m2 : mustB .any l 4 9 = true) (m3 : mustB .any l 7 9 = true) (hB : orderB .any l.toArray N = true) :
   Pre.PrOk .any l.toArray [(4, [(3, 48)]), (7, [(1, 46), (6, 51)]), (9, [(8, 53)])] (RD B nb #[.int .i64 lv, .int .i64 nx, .slice q k c]) (PrD B rb nb r3 #[.int .i64 lv, .int .i64 nx, .slice q k c] q k c es) := by
 refine ⟨fun p _ w w' he ⟨h1, h2, h3⟩ => ⟨fun e => he.blk _ _ (h1 e), fun e => own_ext (h2 e) he, fun e => he.blk _ _ (h3 e)⟩, fun p q hp hq hne => ?_⟩
 simp [pivB] at hp hq
 rcases hp with rfl | rfl | rfl
 · rcases hq with rfl | rfl | rfl
   · exact absurd rfl hne
   · exact .inl (mustB_must hB m1)
   · exact .inl (mustB_must hB m2)
 · rcases hq with rfl | rfl | rfl
   · exact .inr fun w w' r ⟨h1, h2, h3⟩ => ⟨fun e => by omega, fun _ => own_rty (h2 rfl) (by decide) r, fun e => by omega⟩
   · exact absurd rfl hne
   · exact .inl (mustB_must hB m3)
 · rcases hq with rfl | rfl | rfl
   · exact .inr fun w w' r ⟨h1, h2, h3⟩ => ⟨fun e => by omega, fun e => by omega, fun _ => r.2 _ _ _ (by decide) (h3 rfl)⟩
   · exact .inr fun w w' r ⟨h1, h2, h3⟩ => ⟨fun e => by omega, fun e => by omega, fun _ => r.1.2 _ _ _ (by decide) (h3 rfl)⟩
   · exact absurd rfl hne
def DecNOut (size : Int) (data : List UInt8) (w : World) (e : Ending) (w' : World) : Prop := Ext w w' ∧ ∃ q c, e = .returned (.tuple #[.agg #[.int .i64 (decNd size data).level, .int .i64 (decNd size data).next, .slice q (decNd size data).ents.length c], .int .i64 (decE size data)]) ∧
 w'.ownsRow w.heap.size 63 2 (.slice q (decNd size data).ents.length c) (decNd size data).ents.length (entCells (decNd size data).ents)
set_option maxRecDepth 100000 in
set_option maxHeartbeats 4000000 in
theorem DecodeN_any (size : Int) (data : List UInt8) (hl : data.length ≤ 1000000) (w : World) :
   Calls Tryz.prog 31 #[.int .i64 size, .string ⟨data.toArray⟩] w (DecNOut size data w) := by
 have HZ := Lib.hid (fun W => isSizeN_any size W)
 cases hz : isSizeB size
 · rw [hz] at HZ
   have HO : Hid (∀ e w', (Ext w w' ∧ e = .returned (.tuple #[.agg #[.int .i64 0, .int .i64 0, .slice none 0 0], .int .i64 1])) → DecNOut size data w e w') := Lib.hid (fun e w' ⟨h1, h2⟩ => by
     have h3 : decE size data = 1 := by unfold decE; rw [hz, if_pos rfl]
     have h4 : decNd size data = Nd.zero := by unfold decNd; rw [h3, if_neg (by decide)]
     unfold DecNOut
     rw [h3, h4]
     exact ⟨h1, none, 0, h2, rfl, .inl ⟨rfl, rfl⟩⟩)
   generalize DecNOut size data w = OUT at *
   clear hz hl
   have hzb := Blk.new w (.cells #[.int .i64 0, .int .i64 0, .slice none 0 0] 26)
   have hze := Ext.alloc w (.cells #[.int .i64 0, .int .i64 0, .slice none 0 0] 26)
   go_enter Tryz.func31, Tryz.ntmps31
   go_upto_region 2 with (go_at_call 67; refine (HZ.out _).mono ?_; rintro e w2 ⟨rfl, rfl⟩)
   have d0 := Blk.val hzb 0 _ rfl
   have d1 := Blk.val hzb 1 _ rfl
   have d2 := Blk.val hzb 2 _ rfl
   have f0 := Blk.free hzb 0
   have f1 := Blk.free hzb 1
   have f2 := Blk.free hzb 2
   have hlt2 := Blk.lt hzb
   go_wp2_with fail
   exact bodyPost_ret (results_row1 Tryz.results31 _ _ _ _ _ _ rfl hzb ndDesc rfl ndSize) rfl (HO.out _ _ ⟨hze, rfl⟩)
 · rw [hz] at HZ
   have HN1 := Lib.hid (fun (rb : Nat) (rest : List UInt8) (hr : rest.length ≤ 1000000) W (hb : Blk W rb (.cells #[.string ⟨rest.toArray⟩] 112)) => number1 rb rest hr W hb)
   have HN4 := Lib.hid (fun (rb : Nat) (rest : List UInt8) (hr : rest.length ≤ 1000000) W (hb : Blk W rb (.cells #[.string ⟨rest.toArray⟩] 112)) => number4 rb rest hr W hb)
   have hze := (Ext.alloc w (.cells #[.int .i64 0, .int .i64 0, .slice none 0 0] 26)).trans (Ext.alloc _ (.cells #[.string ⟨data.toArray⟩] 112))
   have hzb : Blk ((w.alloc (.cells #[.int .i64 0, .int .i64 0, .slice none 0 0] 26)).alloc (.cells #[.string ⟨data.toArray⟩] 112)) w.heap.size (.cells #[.int .i64 0, .int .i64 0, .slice none 0 0] 26) := Blk.alloc (Blk.new w _) _
   have hrb : Blk ((w.alloc (.cells #[.int .i64 0, .int .i64 0, .slice none 0 0] 26)).alloc (.cells #[.string ⟨data.toArray⟩] 112)) (w.heap.size + 1) (.cells #[.string ⟨data.toArray⟩] 112) := Blk.new1 _ _ _ (by simp)
   have HO1 : Hid (∀ e w', (encNE size (parseNd data) ≠ 0 ∨ encN size (parseNd data) ≠ data) → (Ext w w' ∧ e = .returned (.tuple #[.agg #[.int .i64 0, .int .i64 0, .slice none 0 0], .int .i64 11])) → DecNOut size data w e w') := Lib.hid (fun e w' hc ⟨h1, h2⟩ => by
     have h0 : decOkB size data = false := by
       unfold decOkB
       rcases hc with hc | hc
       · rw [decide_eq_false hc]; rfl
       · rw [Bool.and_eq_false_iff]; exact .inr (by simpa using hc)
     have h3 : decE size data = 11 := by unfold decE; rw [hz, h0]; rfl
     have h4 : decNd size data = Nd.zero := by unfold decNd; rw [h3, if_neg (by decide)]
     unfold DecNOut
     rw [h3, h4]
     exact ⟨h1, none, 0, h2, rfl, .inl ⟨rfl, rfl⟩⟩)
   have HO2 : Hid (∀ e w' (q : Option Addr) (c : Nat), encNE size (parseNd data) = 0 → encN size (parseNd data) = data → Ext w w' → e = .returned (.tuple #[.agg #[.int .i64 (parseNd data).level, .int .i64 (parseNd data).next, .slice q (parseNd data).ents.length c], .int .i64 0]) →
       w'.ownsRow (w.heap.size + 1) 63 2 (.slice q (parseNd data).ents.length c) (parseNd data).ents.length (entCells (parseNd data).ents) → DecNOut size data w e w') := Lib.hid (fun e w' q c hc1 hc2 h1 h2 h5 => by
     have h0 : decOkB size data = true := by
       unfold decOkB
       rw [decide_eq_true hc1, hc2]; simp
     have h3 : decE size data = 0 := by unfold decE; rw [hz, h0]; rfl
     have h4 : decNd size data = parseNd data := by unfold decNd; rw [if_pos h3]
     unfold DecNOut
     rw [h3, h4]
     exact ⟨h1, q, c, h2, own_le h5 (by omega)⟩)
   generalize DecNOut size data w = OUT at *
   clear hz
   go_enter Tryz.func31, Tryz.ntmps31
   go_upto_region 5 with (go_at_call 67; refine (HZ.out _).mono ?_; rintro e w2 ⟨rfl, rfl⟩)
   refine wp_name (fun w0 => Ext w w0 ∧ Blk w0 w.heap.size (.cells #[.int .i64 0, .int .i64 0, .slice none 0 0] 26) ∧ Blk w0 (w.heap.size + 1) (.cells #[.string ⟨data.toArray⟩] 112)) ⟨hze, hzb, hrb⟩ ?_
   clear hze hzb hrb
   rintro w0 ⟨hx0, hz0, hb0⟩
   go_upto_region 8 with (first
     | (go_at_call 68; (with_reducible refine (HN1.out _ _ (by omega) _ hb0).mono ?_); rintro e w1 ⟨rfl, hb1, hg1⟩)
     | (go_at_call 68; (with_reducible refine (HN4.out _ _ (by rw [List.length_drop]; omega) _ hb1).mono ?_); rintro e w2 ⟨rfl, hb2, hg2⟩)
     | (go_at_call 68; refine (HN1.out _ _ (by rw [List.length_drop, List.length_drop]; omega) _ (Blk.alloc hb2 _)).mono ?_; rintro e w3 ⟨rfl, hb3, hg3⟩))
   have e6 : List.drop 1 (List.drop 4 (List.drop 1 data)) = data.drop 6 := by simp [List.drop_drop]
   rw [e6] at hb3
   have hltz := Blk.lt hz0
   have hlt0 := Blk.lt hb0
   have hs1 := hg1.size
   have hs2 := hg2.size
   have hz2 := Blk.grown (Blk.grown hz0 hg1 (by simp)) hg2 (by simp)
   have hz3 := Blk.grown (Blk.alloc hz2 (.cells #[.int .i64 (numL (List.take 1 data) : Nat), .int .i64 (numL (List.take 4 data.tail) : Nat), .slice none 0 0] 26)) hg3 (by simp)
   have hn3 := Blk.grown (Blk.new w2 (.cells #[.int .i64 (numL (List.take 1 data) : Nat), .int .i64 (numL (List.take 4 data.tail) : Nat), .slice none 0 0] 26)) hg3 (by simp; omega)
   have hx3 : Ext w w3 := ext_grown ((ext_grown (ext_grown hx0 hg1 (by omega)) hg2 (by omega)).trans (Ext.alloc w2 (.cells #[.int .i64 (numL (List.take 1 data) : Nat), .int .i64 (numL (List.take 4 data.tail) : Nat), .slice none 0 0] 26))) hg3 (by omega)
   have Hlv : Hid (numL (List.take 1 data) = levelN data) := Lib.hid rfl
   have Hnx : Hid (numL (List.take 4 data.tail) = nextN data) := Lib.hid (by unfold nextN; rw [List.drop_one])
   have Hct : Hid (numL (List.take 1 (List.drop 5 data)) = countN data) := Lib.hid rfl
   have hct : numL (List.take 1 (List.drop 5 data)) < 256 := num_take1 _
   have hnbz : w.heap.size + 1 < w2.heap.size := by omega
   clear hz0 hb0 hx0 hb1 hb2 hg1 hg2 hg3 hz2 e6 hs1 hs2 hltz hlt0
   generalize numL (List.take 1 data) = lv at *
   generalize numL (List.take 4 data.tail) = nx at *
   generalize numL (List.take 1 (List.drop 5 data)) = N at *
   generalize w2.heap.size = nb at *
   go_loopw [9, 30] (fun bef i wr => ∃ k : Nat, k ≤ N ∧ i = .int .i64 k ∧ bef = .string ⟨(parseTo data k).before.toArray⟩ ∧ Blk wr (w.heap.size + 1) (.cells #[.string ⟨(parseTo data k).rest.toArray⟩] 112) ∧ Ext w wr ∧ Blk wr w.heap.size (.cells #[.int .i64 0, .int .i64 0, .slice none 0 0] 26) ∧
       ∃ q c, Blk wr nb (.cells #[.int .i64 lv, .int .i64 nx, .slice q k c] 26) ∧ wr.ownsRow (w.heap.size + 1) 63 2 (.slice q k c) k (entCells (parseTo data k).ents)) (fun _ i _ => N - (intOf i).toNat)
   case atStart => exact ⟨0, Nat.zero_le _, rfl, rfl, hb3, hx3, hz3, none, 0, hn3, rfl, .inl ⟨rfl, rfl⟩⟩
   case round =>
     clear hb3 hx3 hz3 hn3
     obtain ⟨k, hk, rfl, rfl, hb4, hx4, hz4, q, c, hn4, ho4⟩ := hrel
     by_cases hlt : k < N
     · have hltI : (k : Int) < N := by omega
       have hkI : k < 256 := by omega
       have hrest : (parseTo data k).rest.length ≤ 1000000 := Nat.le_trans (parse_rest data k) hl
       have hbef := parse_before data k
       have HNx : Hid (parseTo data (k + 1) = stepN (parseTo data k)) := Lib.hid rfl
       have HE := Lib.hid (parse_len data k)
       generalize parseTo data k = s at *
       obtain ⟨bf, rs, es⟩ := s
       simp only at hb4 hrest hbef ho4 HE ⊢
       have HQ := Lib.hid (And.intro hx4 (And.intro hz4 (And.intro hn4 ho4)))
       clear hx4 hz4 hn4 ho4
       have hmin : min ((numL (rs.take 1) : Nat) : Int) (bf.length : Int) = ((min (numL (rs.take 1)) bf.length : Nat) : Int) := by omega
       go_upto_region 10 with (go_at_call 68; (with_reducible refine (HN1.out _ _ hrest _ hb4).mono ?_); rintro e w5 ⟨rfl, hb5, hg5⟩)
       have hfrl : min (numL (rs.take 1)) bf.length ≤ bf.length := Nat.min_le_right _ _
       have HF : Hid (frontP ⟨bf, rs, es⟩ = min (numL (rs.take 1)) bf.length) := Lib.hid rfl
       clear hmin
       generalize min (numL (rs.take 1)) bf.length = fr at *
       have hfrI : (fr : Int) ≤ bf.length := by omega
       obtain ⟨r1, hr1⟩ : ∃ r1, r1 = rs.drop 1 := ⟨_, rfl⟩
       have Hr1 := Lib.hid hr1
       rw [← hr1] at hb5
       have hd1 : r1.length ≤ 1000000 := by rw [hr1, List.length_drop]; omega
       clear hr1
       have hd2 : (r1.drop 1).length ≤ 1000000 := by rw [List.length_drop]; omega
       have hmo := num_take1 r1
       have hb5d := (Ext.drew w5).blk _ _ hb5
       go_region_with (first
         | (go_at_call 68; refine (HN1.out _ _ hd1 _ hb5d).mono ?_; rintro e w6 ⟨rfl, hb6, hg6⟩)
         | (go_at_call 69; refine (take_r _ _ _ (by omega) hd2 _ hb6).mono ?_; rintro e w7 ⟨rfl, hb7, hc7⟩))
       have HW7 := Lib.hid (grownTrans (grownTrans (grownTrans hg5 (grown_of_ext _ (Ext.drew w5)) (Blk.lt hb4)) hg6 (Blk.lt hb4)) (grown_of_chg hc7) (Blk.lt hb4))
       have HB : Hid (bf.take fr ++ List.take (numL (List.take 1 r1)) r1.tail = belowP ⟨bf, rs, es⟩ ∧ List.drop (numL (List.take 1 r1)) (List.drop 1 r1) = restP ⟨bf, rs, es⟩) := Lib.hid (by
         unfold belowP restP moreP
         rw [HF.out]
         simp only
         rw [← Hr1.out, show rs.drop 2 = r1.drop 1 by rw [Hr1.out, List.drop_drop], List.drop_one]
         exact ⟨rfl, rfl⟩)
       clear hb5 hb5d hb6 hg6 hg5 hc7
       generalize List.drop (numL (List.take 1 r1)) (List.drop 1 r1) = r3 at *
       generalize bf.take fr ++ List.take (numL (List.take 1 r1)) r1.tail = bel at *
       have hd3 : r3.length ≤ 1000000 := by
         rw [HB.out.2]
         unfold restP
         simp only [List.length_drop]; omega
       have hQ7 : Blk w7 nb (.cells #[.int .i64 lv, .int .i64 nx, .slice q k c] 26) := Blk.grown HQ.out.2.2.1 HW7.out (by simp; omega)
       have hrd : RTy (w.heap.size + 1) 112 wr w7 := rty_grown hb4 (Nat.le_refl _) HW7.out
       have hO7 := own_rty HQ.out.2.2.2 (by decide) hrd
       have hZ7 := Blk.grown HQ.out.2.1 HW7.out (by simp)
       have hX7 : Ext w w7 := ext_grown HQ.out.1 HW7.out (by omega)
       have hB7 : w.heap.size + 1 ≤ w7.heap.size := by have := Blk.lt hb7; omega
       have hcx := cutD_ext w7 (w.heap.size + 1)
       have hcs := cutD_size (w := w7) (B := w.heap.size + 1) hB7
       generalize cutD w7 (w.heap.size + 1) = wc at hcx hcs
       have hnbB : w.heap.size + 1 ≤ nb := by omega
       obtain ⟨nv, hnv⟩ : ∃ nv, nv = numL (r3.take 4) := ⟨_, rfl⟩
       have Hnv : Hid (∀ (w : World), Is (.int .i64 (nv : Nat)) (.int .i64 (numL (r3.take 4) : Nat)) w) := Lib.hid (fun _ => by rw [hnv]; rfl)
       have Hnv2 := Lib.hid hnv
       clear hnv
       go_upto_region 11 with (fail)
       refine Pre.wp_region_pk 200 [(4, [(3, 48)]), (7, [(1, 46), (6, 51)]), (9, [(8, 53)])] (hcx) (by kernel_rfl) (by kernel_rfl) (by kernel_rfl) (by kernel_rfl) (by kernel_rfl) (by kernel_rfl) (gok_D (B := w.heap.size + 1) (rb := w.heap.size + 1) (nb := nb) (k := k) (c := c) (q := q) (r4 := r3.drop 4) (lv := (lv : Int)) (nx := (nx : Int)) (es := (es ++ [(bel, (nv : Int))])) (by omega) (by kernel_rfl) (by kernel_rfl)) (prok_D (rb := w.heap.size + 1) (r3 := r3) (es := es) (by kernel_rfl) (by kernel_rfl) (by kernel_rfl)) (fun p hp => ⟨fun _ => hb7, fun _ => hO7, fun _ => hQ7⟩) ?_
       simp only [List.take_succ_cons, List.take_zero, List.take_nil, List.drop_succ_cons, List.drop_zero, List.drop_nil, List.map_cons, List.map_nil]
       repeat (first
         | (refine Pre.wpPL_det (o := ⟨some 46, _, _, _, _, _⟩) (v := .slice q k c) (fun k v => Pre.KeepsP.is _ _ _ _ k v) (by kernel_rfl) (by first | exact .inl rfl | exact .inr ⟨_, _, _, rfl, rfl, rfl⟩) ?_ ?_
            · intro a' w' he0 hp hr K' hK
              have hw := (hp 9 (by kernel_rfl) (by kernel_rfl)).2.2 rfl
              have hv := Blk.val hw 2 _ rfl
              have hl := Blk.lt hw
              simp [Reads, Oper.looksAt, Op.operands, Call.operands, factAt, Is] at hr
              go_simp
              exact hK _ (Ext.refl _)
            simp only [setL, List.set_cons_succ, List.set_cons_zero])
         | (refine Pre.wpPL_pivot (o := ⟨some 49, _, _, _, _, _⟩) (Is (.int .i64 (nv : Nat))) (Is.stable _) (Pre.KeepsP.is _ _ _ _ _ _) (by kernel_rfl) (by first | exact .inl rfl | exact .inr ⟨_, _, _, rfl, rfl, rfl⟩) ?_ ?_
            · intro a' w' he0 hp hr K' hK
              have hw := (hp 4 (by kernel_rfl) (by kernel_rfl)).1 rfl
              simp [Reads, Oper.looksAt, Op.operands, Call.operands, factAt, Is] at hr
              go_simp
              refine (HN4.out _ _ hd3 _ hw).mono ?_
              rintro e w'' ⟨rfl, hb8, hg8⟩
              exact hK _ _ (rty_grown hw (Nat.le_refl _) hg8) (Hnv.out _) (fun x hx hxi y hy => by
                simp at hx
                rcases hx with rfl | rfl | rfl
                · simp at hy
                  subst hy
                  exact hb8
                · simp at hxi
                · simp at hxi)
            simp only [setL, List.set_cons_succ, List.set_cons_zero])
         | (refine Pre.wpPL_det (o := ⟨some 50, _, _, _, _, _⟩) (v := .agg #[.string ⟨bel.toArray⟩, .int .i64 (nv : Nat)]) (fun k v => Pre.KeepsP.is _ _ _ _ k v) (by kernel_rfl) (by first | exact .inl rfl | exact .inr ⟨_, _, _, rfl, rfl, rfl⟩) ?_ ?_
            · intro a' w' he0 hp hr K' hK
              have h47 := hr 47 (by simp [Oper.looksAt, Op.operands])
              have h49 := hr 49 (by simp [Oper.looksAt, Op.operands])
              refine wp_build 63 #[(0, .tmp 47), (1, .tmp 49)] rfl ?_ ?_
              · rw [(show ((#[(0, Operand.tmp 47), (1, Operand.tmp 49)] : Array (Nat × Operand)).map fun (i, x) => (i, a'.eval x)).toList = [(0, .string ⟨bel.toArray⟩), (1, .int .i64 (nv : Nat))] from by simp only [List.map_toArray, List.map_cons, List.map_nil]; rw [show a'.eval (.tmp 47) = _ from h47, show a'.eval (.tmp 49) = _ from h49]), entBuilt]; rfl
              · rw [(show ((#[(0, Operand.tmp 47), (1, Operand.tmp 49)] : Array (Nat × Operand)).map fun (i, x) => (i, a'.eval x)).toList = [(0, .string ⟨bel.toArray⟩), (1, .int .i64 (nv : Nat))] from by simp only [List.map_toArray, List.map_cons, List.map_nil]; rw [show a'.eval (.tmp 47) = _ from h47, show a'.eval (.tmp 49) = _ from h49]), entBuilt]
                exact hK _ (Ext.refl _)
            simp only [setL, List.set_cons_succ, List.set_cons_zero])
         | (refine Pre.wpPL_step (o := ⟨some 51, _, _, _, _, _⟩) (Fresh 1 1 (.cells #[.string ⟨bel.toArray⟩, .int .i64 (nv : Nat)] 63)) (Fresh.stable _ _ _) (fun x hx => by
              simp at hx
              rcases hx with rfl | rfl | rfl
              · exact .inl (by kernel_rfl)
              · exact .inl (by kernel_rfl)
              · exact .inr (fun v w w' r h => by obtain ⟨b, h1, h2⟩ := h; exact ⟨b, h1, r.2 _ _ _ (by decide) h2⟩)) (by kernel_rfl) (by first | exact .inl rfl | exact .inr ⟨_, _, _, rfl, rfl, rfl⟩) ?_ ?_
            · intro a' w' he0 hp hr K' hK
              simp [Reads, Oper.looksAt, Op.operands, Call.operands, factAt, Is] at hr
              go_simp
              exact hK _ _ (Ext.alloc _ _) (Fresh.new _ _ _ _)
            simp only [setL, List.set_cons_succ, List.set_cons_zero])
         | (refine Pre.wpPL_pivot (o := ⟨some 52, _, _, _, _, _⟩) (RowsF 63 (w.heap.size + 1) 2 (k + 1) (entCells (es ++ [(bel, (nv : Int))]))) (RowsF.stable _ _ _ _ _) (fun x hx => by
              simp at hx
              rcases hx with rfl | rfl | rfl
              · exact .inl (by kernel_rfl)
              · exact .inl (by kernel_rfl)
              · exact .inr (fun v w w' r h => by obtain ⟨q', c', h1, h2⟩ := h; exact ⟨q', c', h1, own_rty h2 (by decide) r⟩)) (by kernel_rfl) (by first | exact .inl rfl | exact .inr ⟨_, _, _, rfl, rfl, rfl⟩) ?_ ?_
            · intro a' w' he0 hp hr K' hK
              have hn := (hp 9 (by kernel_rfl) (by kernel_rfl)).2.2 rfl
              have ho := (hp 7 (by kernel_rfl) (by kernel_rfl)).2.1 rfl
              have h46 := hr 46 (by simp [Oper.looksAt, Op.operands, Call.operands])
              obtain ⟨b, hb1, hb2⟩ := hr 51 (by simp [Oper.looksAt, Op.operands, Call.operands])
              have hsz : w.heap.size + 1 ≤ w'.heap.size := by have := he0.size; omega
              refine wp_appk (.tmp 46) (.tmp 51) 24 63 rfl (w.heap.size + 1) (.agg #[.string ByteArray.empty, .int .i64 0]) 2 24 Tryz.underlying24 infoEntA rfl (by decide) _ k _ h46 ho (some ⟨b, 0, none⟩) 1 1 [.string ⟨bel.toArray⟩, .int .i64 (nv : Nat)] hb1 rfl rfl (blk_cells (ys := [.string ⟨bel.toArray⟩, .int .i64 (nv : Nat)]) hb2) (by intro u hu; simp at hu; rcases hu with rfl | rfl <;> rfl) (by omega) (by decide) hsz ?_
              intro v' w'' ho' hg
              obtain ⟨q', c', rfl⟩ := own_slice ho'
              exact hK _ _ ⟨rty_app hg ho hsz, hn⟩ ⟨q', c', rfl, by rw [entCells_snoc]; exact ho'⟩ (fun x hx hxi y hy => by
                simp at hx
                rcases hx with rfl | rfl | rfl
                · simp at hxi
                · trivial
                · simp at hxi)
            simp only [setL, List.set_cons_succ, List.set_cons_zero])
         | (refine Pre.wpPL_pivot (o := ⟨none, _, _, _, _, _⟩) Any Any.stable (fun x hx => .inr fun _ _ _ _ _ => trivial) (by kernel_rfl) (by first | exact .inl rfl | exact .inr ⟨_, _, _, rfl, rfl, rfl⟩) ?_ ?_
            · intro a' w' he0 hp hr K' hK
              have hn := (hp 9 (by kernel_rfl) (by kernel_rfl)).2.2 rfl
              have h53 : a'.tmps.getD 53 undef = .pointer (some ⟨nb, 2, none⟩) := hr 53 (by simp [Oper.looksAt, Op.operands])
              obtain ⟨q', c', h52, ho⟩ := hr 52 (by simp [Oper.looksAt, Op.operands])
              have hv := Blk.val hn 2 _ rfl
              have hf := Blk.free hn 2
              have hl := Blk.lt hn
              have h52 : a'.tmps.getD 52 undef = .slice q' (k + 1) c' := h52
              simp at h53 h52
              go_simp
              exact hK undef _ (rty_chg hn hnbB Chg.setCell) trivial (fun x hx hxi y hy => by
                simp at hx
                rcases hx with rfl | rfl | rfl
                · simp at hxi
                · simp at hxi
                · simp at hy
                  subst hy
                  exact ⟨q', c', Blk.setCell hn, own_rty ho (by decide) (rty_chg hn hnbB Chg.setCell)⟩)
            simp only [setL, List.set_cons_succ, List.set_cons_zero])
         | (refine Pre.wpPL_move _ _ (by kernel_rfl) (by first | exact .inl rfl | exact .inr ⟨_, _, _, rfl, rfl, rfl⟩) (by first | exact .inl rfl | exact .inr rfl) rfl (by first | exact Is.stable _ | exact RowsF.stable _ _ _ _ _ | exact NoneF.stable _ _ | exact Fresh.stable _ _ _ | exact AppF.stable _ | exact WrF.stable _ | exact PtrF.stable _ _ | exact PlF.stable _ _) (by first | exact Pre.KeepsP.is _ _ _ _ _ _ ) ?_
            simp only [setL, List.set_cons_succ, List.set_cons_zero, List.getD_cons_succ, List.getD_cons_zero])
         | (apply Pre.wpPL_det (fun k v => Pre.KeepsP.is _ _ _ _ k v) (by kernel_rfl) (by first | exact .inl rfl | exact .inr ⟨_, _, _, rfl, rfl, rfl⟩)
            · intro a w' he0 hp hr K hK
              have he := (fun (_ : (0 : Nat) = 0) (_ : (0 : Nat) = 0) => he0) (by kernel_rfl) (by kernel_rfl)
              simp [Reads, Oper.looksAt, Op.operands, Call.operands, factAt, Is] at hr
              have hx := he.cell
              go_simp
              try go_bits
              try (rw [if_neg (by omega)]; go_simp)
              first
                | exact hK _ (Ext.refl _)
            simp only [setL, List.set_cons_succ, List.set_cons_zero]))
       intro w2 he2
       simp only [killL, killIn, List.foldl_cons, List.foldl_nil, List.set_cons_succ, List.set_cons_zero]
       simp only [List.map_cons, List.map_nil, List.set_cons_succ, List.set_cons_zero, List.getD_cons_succ, List.getD_cons_zero]
       repeat (first | with_reducible refine rest_is _ _ _ _ ?_ | (with_reducible refine rest_fact _ _ _ _ ?_; intro _ _) | with_reducible refine rest_end _ _ ?_)
       try simp only [List.reverse_cons, List.reverse_nil, List.nil_append, List.cons_append]
       rename_i v1 F1 v2 F2 v3 F3 v4 F4 v5 F5
       have hb9 : Blk w2 (w.heap.size + 1) (.cells #[.string ⟨(r3.drop 4).toArray⟩] 112) := F2
       have F5' : EndN (w.heap.size + 1) nb k lv nx (es ++ [(bel, (nv : Int))]) v5 w2 := F5
       obtain ⟨q', c', hn9, ho9⟩ := F5'
       have hlz : w.heap.size < wc.heap.size := by omega
       have hZ9 := he2.blk _ _ ((hcx.block _ hlz).symm.trans hZ7)
       have hXc : Ext w wc := ⟨hcx.os.symm.trans hX7.os, hcx.tape.symm.trans hX7.tape, hcx.output.symm.trans hX7.output, by omega, fun j hj => (hcx.block j (by omega)).symm.trans (hX7.block j hj)⟩
       have hX9 : Ext w w2 := hXc.trans he2
       have HR := Lib.hid (And.intro hb9 (And.intro hn9 (And.intro ho9 (And.intro hZ9 hX9))))
       clear F1 F2 F3 F4 F5 hb9 hn9 ho9 hZ9 hX9 he2 hcx hcs hlz hb7 hO7 hQ7 hZ7 hX7 hB7 hrd hb4
       go_wp2_with fail
       go_roundw
       case rel =>
         obtain ⟨hb9, hn9, ho9, hZ9, hX9⟩ := HR.out
         obtain ⟨e1, e2⟩ := HB.out
         refine ⟨k + 1, by omega, by go_num, ?_, ?_, hX9, hZ9, q', c', hn9, ?_⟩
         · rw [HNx.out, e1]; rfl
         · rw [HNx.out]
           show Blk _ _ (.cells #[.string ⟨((restP ⟨bf, rs, es⟩).drop 4).toArray⟩] _)
           rw [← e2]; exact hb9
         · rw [HNx.out]
           show World.ownsRow _ _ _ _ _ _ (entCells (es ++ [(belowP ⟨bf, rs, es⟩, ((numL ((restP ⟨bf, rs, es⟩).take 4) : Nat) : Int))]))
           rw [← e1, ← e2, ← Hnv2.out]; exact ho9
       case measure => simp [intOf]; omega
     · have hltI : decide ((k : Int) < N) = false := decide_eq_false (by omega)
       have hkN : k = N := by omega
       subst hkN
       have hpn : parseNd data = ⟨(lv : Int), (nx : Int), (parseTo data k).ents⟩ := by
         unfold parseNd
         rw [← Hlv.out, ← Hnx.out, ← Hct.out]
       have hpl := parse_len data k
       rw [hpn] at HO1 HO2
       simp only at HO2
       generalize (parseTo data k).ents = es at *
       subst hpl
       have HEn := Lib.hid (fun W (e : Ext wr W) => EncodeN_any size q c ⟨(lv : Int), (nx : Int), es⟩ W ((own_cellsND ho4).ext e) (by simp only; omega))
       unfold ndV at HEn
       simp only at HEn
       have HQ := Lib.hid (And.intro hx4 (And.intro hz4 (And.intro hn4 ho4)))
       have hlz : w.heap.size < nb := by omega
       clear hx4 hz4 ho4 hb4 hpn Hlv Hnx Hct hlt HN1 HN4
       have HSn := Lib.hid (fun (h : encNE size ⟨(lv : Int), (nx : Int), es⟩ = 0) => encNS_okD h)
       by_cases hE : encNE size ⟨(lv : Int), (nx : Int), es⟩ = 0
       · have hS := HSn.out hE
         rw [hE, hS] at HEn
         by_cases hD : encN size ⟨(lv : Int), (nx : Int), es⟩ = data
         · rw [hD] at HEn
           have HO := Lib.hid (fun e w' q c => HO2.out e w' q c hE hD)
           clear HO1 HO2 hE hS hD
           have hdd : (data != data) = false := by simp
           go_wp2_with (first
             | ((with_reducible (show wpList _ _ _ (⟨some 58, _, _, _, _, _⟩ :: _) _ _)); refine wpList_row (o := ⟨some 58, _, _, _, _, _⟩) rfl 26 (.tmp 8) rfl _ rfl _ _ _ hn4 ndDesc rfl ndSize ?_)
             | (go_at_call 49; refine (HEn.out wr (Ext.refl wr)).mono ?_; rintro e w5 ⟨rfl, hx5⟩; have hn5 := hx5.blk _ _ hn4; have hz5 := hx5.blk _ _ HQ.out.2.1)
             | ((with_reducible (show wpList _ _ _ (⟨some 70, _, _, _, _, _⟩ :: _) _ _)); refine wpList_row (o := ⟨some 70, _, _, _, _, _⟩) rfl 26 (.tmp 8) rfl _ rfl _ _ _ hn5 ndDesc rfl ndSize ?_)
             | (refine wpList_put rfl 26 (.tmp 4) (.tmp 70) rfl _ #[.int .i64 lv, .int .i64 nx, .slice q es.length c] rfl rfl _ _ hz5 ndSize rfl (by simp [Value.oneCell']) ?_; intro w6 hz6 hc6))
           exact bodyPost_ret (results_row1 Tryz.results31 _ _ _ _ _ _ rfl hz6 ndDesc rfl ndSize) rfl (HO.out _ _ q c (hc6.ext (HQ.out.1.trans hx5) (Nat.le_refl _)) rfl (own_chg (own_ext HQ.out.2.2.2 hx5) hc6 (by omega)))
         · have HO := Lib.hid (fun e w' => HO1.out e w' (.inr hD))
           clear HO1 HO2 hE hS
           generalize encN size ⟨(lv : Int), (nx : Int), es⟩ = en at *
           have hdd : (en != data) = true := by simpa using hD
           have hdd2 : (en == data) = false := by simpa using hD
           go_wp2_with (first
             | ((with_reducible (show wpList _ _ _ (⟨some 58, _, _, _, _, _⟩ :: _) _ _)); refine wpList_row (o := ⟨some 58, _, _, _, _, _⟩) rfl 26 (.tmp 8) rfl _ rfl _ _ _ hn4 ndDesc rfl ndSize ?_)
             | (go_at_call 49; refine (HEn.out wr (Ext.refl wr)).mono ?_; rintro e w5 ⟨rfl, hx5⟩; have hz5 := hx5.blk _ _ HQ.out.2.1; have d0 := Blk.val hz5 0 _ rfl; have d1 := Blk.val hz5 1 _ rfl; have d2 := Blk.val hz5 2 _ rfl; have f0 := Blk.free hz5 0; have f1 := Blk.free hz5 1; have f2 := Blk.free hz5 2; have hlt5 := Blk.lt hz5)
             | (refine wpList_bld (o := ⟨some 69, _, _, _, _, _⟩) rfl 26 #[] rfl [] rfl _ ndZ_built ?_)
             | (refine wpList_put rfl 26 (.tmp 4) (.tmp 69) rfl _ #[.int .i64 0, .int .i64 0, .slice none 0 0] rfl rfl _ _ hz5 ndSize rfl (by simp [Value.oneCell']) ?_; intro w6 hz6 hc6))
           exact bodyPost_ret (results_row1 Tryz.results31 _ _ _ _ _ _ rfl hz6 ndDesc rfl ndSize) rfl (HO.out _ _ ⟨hc6.ext (HQ.out.1.trans hx5) (Nat.le_refl _), rfl⟩)
       · have HO := Lib.hid (fun e w' => HO1.out e w' (.inl hE))
         have hEi : (encNE size ⟨(lv : Int), (nx : Int), es⟩ != 0) = true := by simpa using hE
         clear HO1 HO2 HSn
         generalize encNE size ⟨(lv : Int), (nx : Int), es⟩ = ee at *
         go_wp2_with (first
           | ((with_reducible (show wpList _ _ _ (⟨some 58, _, _, _, _, _⟩ :: _) _ _)); refine wpList_row (o := ⟨some 58, _, _, _, _, _⟩) rfl 26 (.tmp 8) rfl _ rfl _ _ _ hn4 ndDesc rfl ndSize ?_)
           | (go_at_call 49; refine (HEn.out wr (Ext.refl wr)).mono ?_; rintro e w5 ⟨rfl, hx5⟩; have hz5 := hx5.blk _ _ HQ.out.2.1)
           | (refine wpList_bld (o := ⟨some 69, _, _, _, _, _⟩) rfl 26 #[] rfl [] rfl _ ndZ_built ?_)
           | (refine wpList_put rfl 26 (.tmp 4) (.tmp 69) rfl _ #[.int .i64 0, .int .i64 0, .slice none 0 0] rfl rfl _ _ hz5 ndSize rfl (by simp [Value.oneCell']) ?_; intro w6 hz6 hc6))
         exact bodyPost_ret (results_row1 Tryz.results31 _ _ _ _ _ _ rfl hz6 ndDesc rfl ndSize) rfl (HO.out _ _ ⟨hc6.ext (HQ.out.1.trans hx5) (Nat.le_refl _), rfl⟩)
end Go.Proofs.YtifmbcjbccedfaaGreatDoor
