/- The walk of the program's Places. -/
import Derived.Test.YtkhlglkipeoalaaDoorX20
import Derived.Test.YtkhlglkipeoalaaDoorPB
set_option linter.unusedSimpArgs false
set_option linter.unusedVariables false
namespace Go.Proofs.YtkhlglkipeoalaaDoor
open Go.RowKit Dsd

/-- What Places answers: the addresses, and the error. -/
noncomputable def placesOf (m : List (List UInt8)) (h : Hd) (d : DS) (ns : List Int) : List Int × Int :=
  if doorOf h d 1 ≠ 0 then ([], doorOf h d 1) else if ns.any (badB d) = true then ([], 2) else if ns = [] then ([], 0) else
    if (endOfC m d.interval h.fin).2 ≠ 0 then ([], (endOfC m d.interval h.fin).2) else (plFrom d.interval (endOfC m d.interval h.fin).1 h.fin ns, 0)
/-- What Places hands back. -/
def PlOut (R : List Int × Int) (w : World) (e : Ending) (w' : World) : Prop := Ext w w' ∧ ∃ q k c, e = .returned (.tuple #[.slice q k c, .int .i64 R.2]) ∧ k = R.1.length ∧ Ints w' q R.1
theorem plOut_no {R : List Int × Int} {w w' : World} {c : Int} (he : Ext w w') (hr : R = ([], c)) : PlOut R w (.returned (.tuple #[.slice none 0 0, .int .i64 c])) w' := by
  subst hr; exact ⟨he, none, 0, 0, rfl, rfl, .inl rfl⟩
theorem plOut_yes {R : List Int × Int} {A : List Int} {w w' : World} {q : Option Addr} {k c : Nat} (he : Ext w w') (hr : R = (A, 0)) (hk : k = A.length) (hq : Ints w' q A) : PlOut R w (.returned (.tuple #[.slice q k c, .int .i64 0])) w' := by
  subst hr; exact ⟨he, q, k, c, rfl, hk, hq⟩
/-- The addresses' memory is the caller's own. -/
def PlOwn (R : List Int × Int) (w : World) (e : Ending) (w' : World) : Prop := ∀ q k c x, e = .returned (.tuple #[.slice q k c, x]) → w'.ownsRow w.heap.size 3 1 (.slice q k c) k (R.1.map (Value.int .i64))
theorem plOwn_no {R : List Int × Int} {w w' : World} {c : Int} (hr : R = ([], c)) : PlOwn R w (.returned (.tuple #[.slice none 0 0, .int .i64 c])) w' := by
  intro q k c x h
  simp at h
  obtain ⟨⟨rfl, rfl, rfl⟩, _⟩ := h
  subst hr
  exact World.ownsRow_nil _ _ _ _
theorem plOwn_yes {R : List Int × Int} {A : List Int} {w w' : World} {q : Option Addr} {k c B : Nat} {y : Value} (he : w.heap.size ≤ B) (hr : R = (A, 0)) (h : w'.ownsRow B 3 1 (.slice q k c) k (A.map (Value.int .i64))) : PlOwn R w (.returned (.tuple #[.slice q k c, y])) w' := by
  intro q k c x h
  simp at h
  obtain ⟨⟨rfl, rfl, rfl⟩, _⟩ := h
  subst hr
  exact own_le ‹_› he
theorem own_ints {w : World} {base : Nat} {e : TypeId} {v : Value} {n : Nat} {A : List Int} (h : w.ownsRow base e 1 v n (A.map (Value.int .i64))) : ∃ q c, v = .slice q n c ∧ Ints w q A ∧ A.length = n := by
  have hl : A.length = n := by have := h.1; simpa using this
  obtain ⟨q, c, rfl, hc, h1, h2⟩ := own_cells h
  exact ⟨q, c, by simp [hl], hc, hl⟩
/-- Rows of other elements lie in other blocks. -/
theorem own_apart {w : World} {b1 b2 : Nat} {e1 e2 : TypeId} {s1 s2 : Nat} {v1 v2 : Value} {n1 n2 : Nat} {xs1 xs2 : List Value} (h1 : w.ownsRow b1 e1 s1 v1 n1 xs1) (h2 : w.ownsRow b2 e2 s2 v2 n2 xs2) (hne : e1 ≠ e2) : v1.ownBlock = none ∨ v1.ownBlock ≠ v2.ownBlock := by
  obtain ⟨_, ⟨rfl, _⟩ | ⟨g1, cap1, cur1, rfl, _, hg1, _⟩⟩ := h1
  · exact .inl rfl
  · right
    obtain ⟨_, ⟨rfl, _⟩ | ⟨g2, cap2, cur2, rfl, _, hg2, _⟩⟩ := h2
    · simp [Value.ownBlock]
    · intro e
      simp [Value.ownBlock] at e
      subst e
      rw [hg1] at hg2
      simp at hg2
      exact hne hg2.2
theorem own_two {w w' : World} {base : Nat} {e : TypeId} {size : Nat} {v : Value} {n : Nat} {xs : List Value} {xb : Nat} {g : Option Nat} (h : w.ownsRow base e size v n xs) (t : Two xb g w w') (hx : v.ownBlock ≠ some xb) (hg : v.ownBlock = none ∨ v.ownBlock ≠ g) : w'.ownsRow base e size v n xs := by
  refine ⟨h.1, ?_⟩
  rcases h.2 with hn | ⟨b, cap, cur, rfl, hb, hgg, rest⟩
  · exact .inl hn
  · refine .inr ⟨b, cap, cur, rfl, hb, (t.block b (Array.getElem?_eq_some_iff.1 hgg).1 (fun e => hx (by simp [Value.ownBlock, e])) (fun e => ?_)).trans hgg, rest⟩
    rcases hg with hg | hg
    · simp [Value.ownBlock] at hg
    · exact hg (by simp [Value.ownBlock, e])
theorem any_take (d : DS) (ns : List Int) (h : ns.any (badB d) = false) : ∀ n ∈ ns, 1 ≤ n ∧ n ≤ d.length := by
  intro n hn
  rw [List.any_eq_false] at h
  have := h n hn
  simp [badB] at this
  exact this
theorem hd_plus (h : Hd) (a b f g : Int) : ({ ({ h with count := a, fin := f } : Hd) with count := b, fin := g } : Hd) = { h with count := b, fin := g } := rfl

theorem en_apart {w : World} {B : Nat} {v : Value} {k : Nat} {xs : List Value} {b : Nat} {p : Option Addr} {n cap : Nat} {h : Hd} {d : DS} {u : Value} (ho : w.ownsRow B 3 1 v k xs) (hx : EnAt w b p n cap h d u) : v.ownBlock ≠ some b :=
  Lib.ownBlock_ne (T := 82) (fr := (0, 0)) ho hx (by decide)
theorem en_grown2 {w w' : World} {B : Nat} {v : Value} {k : Nat} {xs : List Value} {b : Nat} {p : Option Addr} {n cap : Nat} {h : Hd} {d : DS} {u : Value} (ho : w.ownsRow B 3 1 v k xs) (hx : EnAt w b p n cap h d u) (hg : w.grownBy w' v.ownBlock) : EnAt w' b p n cap h d u :=
  (hg.block b (Blk.lt hx) (Ne.symm (en_apart ho hx))).trans hx
/-- What stands in Places's loop, behind j lengths. -/
def PlIn (w : World) (B xb B2 : Nat) (p : Option Addr) (n cap : Nat) (h : Hd) (d : DS) (L : Recs) (ns : List Int) (j : Nat) (o : Value) (wr : World) : Prop :=
  Ext w wr ∧ B2 ≤ wr.heap.size ∧ (∃ v, EnAt wr xb p n cap { h with count := h.count + j, fin := (stAt d.interval L h.fin (ns.take j)).2 } d v ∧ wr.ownsRow B 9 1 v (stAt d.interval L h.fin (ns.take j)).1.length ((stAt d.interval L h.fin (ns.take j)).1.map fun s => .string ⟨s.toArray⟩)) ∧
    wr.ownsRow B2 3 1 o j ((plFrom d.interval L h.fin (ns.take j)).map (Value.int .i64))
theorem plIn_next {w : World} {B xb B2 : Nat} {p : Option Addr} {n cap : Nat} {h : Hd} {d : DS} {L : Recs} {ns : List Int} {j : Nat} {o' : Value} {wr w8 : World} {v : Value} {Lj : Recs} {fj : Int} (hj : j < ns.length) (hst : stAt d.interval L h.fin (ns.take j) = (Lj, fj))
    (he : Ext w w8) (hz : B2 ≤ w8.heap.size) (hen : EnAt w8 xb p n cap { h with count := h.count + j + 1, fin := (addOf d.interval Lj fj (zsL (ns.getD j 0))).2 } d v)
    (hrow : w8.ownsRow B 9 1 v (addOf d.interval Lj fj (zsL (ns.getD j 0))).1.length ((addOf d.interval Lj fj (zsL (ns.getD j 0))).1.map fun s => .string ⟨s.toArray⟩))
    (hout : w8.ownsRow B2 3 1 o' (j + 1) (((plFrom d.interval L h.fin (ns.take j)).map (Value.int .i64)) ++ [.int .i64 (addAt d.interval Lj fj (zsL (ns.getD j 0)))])) : PlIn w B xb B2 p n cap h d L ns (j + 1) o' w8 := by
  have e1 : ns.take (j + 1) = ns.take j ++ [ns.getD j 0] := by rw [List.take_succ_eq_append_getElem hj]; simp [List.getD, hj]
  have e2 : h.count + ((j + 1 : Nat) : Int) = h.count + j + 1 := by omega
  refine ⟨he, hz, ⟨v, ?_, ?_⟩, ?_⟩
  · rw [e1, stAt_snoc, hst, e2]; exact hen
  · rw [e1, stAt_snoc, hst]; exact hrow
  · rw [e1, plFrom_snoc, hst, List.map_append]; exact hout

set_option maxRecDepth 100000 in
set_option maxHeartbeats 4000000 in
theorem Places_own (p ql : Option Addr) (n cap k c : Nat) (m : List (List UInt8)) (h : Hd) (d : DS) (ns : List Int) (w : World) (hs : Strs w p m) (hn : m.length = n) (hm : Small m) (hl : Ints w ql ns) (hk : ns.length = k) (hk2 : k ≤ 1000) :
    Calls Tryd.prog 19 #[.iface 29 (.slice p n cap), .agg #[.int .i64 h.applied, .int .i64 h.count, .int .i64 h.fin, .int .i64 h.root, .int .i64 h.height, .int .i64 h.splits, .int .i64 h.areas], .agg #[.int .i64 d.id, .int .i64 d.org, .int .i64 d.format, .int .i64 d.length, .int .i64 d.block, .int .i64 d.keyAt, .int .i64 d.keyLength, .int .i64 d.interval, .int .i64 d.area, .int .i64 d.freeInterval, .int .i64 d.freeArea, .int .i64 d.base, .int .i64 d.altAt, .int .i64 d.altLength, .bool d.unique, .int .i64 d.cls, .string ⟨d.volume.toArray⟩, .string ⟨d.owner.toArray⟩, .int .i64 d.created, .int .i64 d.expires, .bool d.archived], .slice ql k c] w (fun e w' => PlOut (placesOf m h d ns) w e w' ∧ PlOwn (placesOf m h d ns) w e w') := by
  subst hk
  have Hs := Lib.hid hs
  have Hl := Lib.hid hl
  have Hop := Lib.hid (open_any p n cap h d)
  have Hte := Lib.hid (fun w hs => theEnd_any p n cap m h d w hs hn hm)
  clear hs hl
  go_enter Tryd.func19, Tryd.ntmps19
  go_upto_region 1 with (fail)
  refine wp_name (fun w0 => Ext w w0 ∧ HdAt w0 w.heap.size h ∧ DsAt w0 (w.heap.size + 1) d) (hd_ds w h d) ?_
  rintro w0 ⟨he0, hb1, hb2⟩
  go_wp2_with (first | (refine wpList_ds rfl (.tmp 6) rfl _ rfl d hb2 ?_) | (refine wpList_hd rfl (.tmp 5) rfl _ rfl h hb1 ?_))
  refine (Hop.out _).mono ?_
  rintro e w1 ⟨he1, ⟨hdo, rfl⟩ | ⟨hdo, rfl⟩⟩
  · obtain ⟨hva, hpl, hor⟩ := door_zero hdo
    obtain ⟨v1, v2, v3, v4, v5, v6⟩ := valid_spec hva
    obtain ⟨p1, p2, p3, p4⟩ := plain_spec hpl
    have hiv : 128 ≤ d.interval ∧ d.interval ≤ 512 := by rcases isSize_spec v3 with h | h | h <;> omega
    obtain ⟨hi0, hi1⟩ := hiv
    have HD := Lib.hid hdo
    clear hdo hva hpl hor v1 v2 v3 v6 hb1 hb2
    cases hbad : ns.any (badB d)
    · have Hbad := Lib.hid (any_take d ns hbad)
      have HBAD := Lib.hid hbad
      clear hbad
      by_cases hnil : ns = []
      · have HR : Hid (placesOf m h d ns = ([], 0)) := Lib.hid (by unfold placesOf; rw [if_neg (by simp [HD.out]), if_neg (by rw [HBAD.out]; simp), if_pos hnil])
        have hl0 : ns.length = 0 := by rw [hnil]; rfl
        have hl0I : ((ns.length : Int) == 0) = true := by rw [hl0]; rfl
        clear hnil hl0
        go_wp2_with (first | (refine wpList_put rfl 77 (.tmp 10) (.tmp 21) rfl _ #[.iface 29 (.slice p n cap), .int .i64 h.applied, .int .i64 h.count, .int .i64 h.fin, .int .i64 h.root, .int .i64 h.height, .int .i64 h.splits, .int .i64 h.areas, .int .i64 d.id, .int .i64 d.org, .int .i64 d.format, .int .i64 d.length, .int .i64 d.block, .int .i64 d.keyAt, .int .i64 d.keyLength, .int .i64 d.interval, .int .i64 d.area, .int .i64 d.freeInterval, .int .i64 d.freeArea, .int .i64 d.base, .int .i64 d.altAt, .int .i64 d.altLength, .bool d.unique, .int .i64 d.cls, .string ⟨d.volume.toArray⟩, .string ⟨d.owner.toArray⟩, .int .i64 d.created, .int .i64 d.expires, .bool d.archived] rfl rfl _ _ (Blk.new w1 _) clSize rfl (cl_one _ rfl h d) ?_; intro w2 hcl hc2; have he2 : Ext w1 w2 := hc2.ext (Ext.alloc _ _) (Nat.le_refl _)) | (go_at_call 45; refine (ContainsFunc_any ql c ns.length ns _ _ h d _ (Hl.out.ext ((he0.trans he1).trans he2)) rfl (by omega) hcl).mono ?_; rw [HBAD.out]; rintro e w3 ⟨rfl, he3⟩))
        go_ret2
        exact ⟨plOut_no (((he0.trans he1).trans he2).trans he3) HR.out, plOwn_no HR.out⟩
      · have hlp : 0 < ns.length := List.length_pos_iff.2 hnil
        have hl0I : ((ns.length : Int) == 0) = false := by simp; omega
        have HR := Lib.hid (show placesOf m h d ns = _ by unfold placesOf; rw [if_neg (by simp [HD.out]), if_neg (by rw [HBAD.out]; simp), if_neg hnil])
        clear hnil
        go_wp2_with (first | (refine wpList_put rfl 77 (.tmp 10) (.tmp 21) rfl _ #[.iface 29 (.slice p n cap), .int .i64 h.applied, .int .i64 h.count, .int .i64 h.fin, .int .i64 h.root, .int .i64 h.height, .int .i64 h.splits, .int .i64 h.areas, .int .i64 d.id, .int .i64 d.org, .int .i64 d.format, .int .i64 d.length, .int .i64 d.block, .int .i64 d.keyAt, .int .i64 d.keyLength, .int .i64 d.interval, .int .i64 d.area, .int .i64 d.freeInterval, .int .i64 d.freeArea, .int .i64 d.base, .int .i64 d.altAt, .int .i64 d.altLength, .bool d.unique, .int .i64 d.cls, .string ⟨d.volume.toArray⟩, .string ⟨d.owner.toArray⟩, .int .i64 d.created, .int .i64 d.expires, .bool d.archived] rfl rfl _ _ (Blk.new w1 _) clSize rfl (cl_one _ rfl h d) ?_; intro w2 hcl hc2; have he2 : Ext w1 w2 := hc2.ext (Ext.alloc _ _) (Nat.le_refl _)) | (go_at_call 45; refine (ContainsFunc_any ql c ns.length ns _ _ h d _ (Hl.out.ext ((he0.trans he1).trans he2)) rfl (by omega) hcl).mono ?_; rw [HBAD.out]; rintro e w3 ⟨rfl, he3⟩; have hcl := he3.blk _ _ hcl) | (refine wpList_row rfl 77 (.tmp 10) rfl _ rfl _ _ _ hcl clDesc rfl clSize ?_))
        refine (Hte.out _ (Hs.out.ext (((he0.trans he1).trans he2).trans he3))).mono ?_
        rintro e w4 ⟨he4, q4, k4, c4, rfl, hk4, hown4, hsm4⟩
        have hl4 := endOfC_len m d.interval h.fin
        have hs4 := (endOfC_small m d.interval h.fin).2
        generalize (endOfC m d.interval h.fin).1 = L at *
        generalize (endOfC m d.interval h.fin).2 = x at *
        obtain rfl : L.length = k4 := hk4.symm
        have HE4 := Lib.hid ((((he0.trans he1).trans he2).trans he3).trans he4)
        have hz34 := he4.size
        have hzw := (((he0.trans he1).trans he2).trans he3).size
        have Hl4 := Lib.hid (Hl.out.ext HE4.out)
        have Hown4 := Lib.hid hown4
        have Hsm4 := Lib.hid hsm4
        clear hown4 hsm4 he4 he3 he2 hc2 hcl
        by_cases hx : x = 0
        · subst hx
          have HR2 : Hid (placesOf m h d ns = (plFrom d.interval L h.fin ns, 0)) := Lib.hid (by rw [HR.out, if_neg (by simp)])
          go_upto_region 11 with (first | (refine wpList_put rfl 82 (.tmp 12) (.tmp 35) rfl _ #[.iface 29 (.slice p n cap), .int .i64 h.applied, .int .i64 h.count, .int .i64 h.fin, .int .i64 h.root, .int .i64 h.height, .int .i64 h.splits, .int .i64 h.areas, .int .i64 d.id, .int .i64 d.org, .int .i64 d.format, .int .i64 d.length, .int .i64 d.block, .int .i64 d.keyAt, .int .i64 d.keyLength, .int .i64 d.interval, .int .i64 d.area, .int .i64 d.freeInterval, .int .i64 d.freeArea, .int .i64 d.base, .int .i64 d.altAt, .int .i64 d.altLength, .bool d.unique, .int .i64 d.cls, .string ⟨d.volume.toArray⟩, .string ⟨d.owner.toArray⟩, .int .i64 d.created, .int .i64 d.expires, .bool d.archived, .slice q4 L.length c4] rfl rfl _ _ (Blk.new w4 _) enSize rfl (en_one p n cap h d q4 L.length c4) ?_; intro w5 hen hc5; have he5 : Ext w4 w5 := hc5.ext (Ext.alloc _ _) (Nat.le_refl _)))
          have hE5 := HE4.out.trans he5
          have Hown5 := Lib.hid (own_ext Hown4.out he5)
          have Hl5 := Lib.hid (Hl4.out.ext he5)
          have HE5 := Lib.hid hE5
          have Hen5 := Lib.hid hen
          have hxb5 : w4.heap.size < w5.heap.size := Blk.lt hen
          clear hen he5 hE5 Hl4 Hown4
          have Hst := Lib.hid (fun j => stAt_inv d.interval L h.fin hl4 hs4 (ns.take j) (fun n hn => by have := (Hbad.out n (List.mem_of_mem_take hn)).2; omega))
          have Hpl := Lib.hid (fun j => plFrom_len d.interval (ns.take j) L h.fin)
          obtain ⟨i0, hi, hz0, hz1, hz2⟩ := info_parts infoByte
          have Hi := Lib.hid hi
          clear hi
          go_wp2_with fail
          go_loopw [13, 42] (fun o i wr => ∃ j : Nat, j ≤ ns.length ∧ i = .int .i64 j ∧ PlIn w w3.heap.size w4.heap.size w5.heap.size p n cap h d L ns j o wr) (fun _ i _ => ns.length - (intOf i).toNat)
          case atStart => exact ⟨0, Nat.zero_le _, rfl, HE5.out, Nat.le_refl _, ⟨_, by rw [show ({ h with count := h.count + ((0 : Nat) : Int), fin := (stAt d.interval L h.fin (ns.take 0)).2 } : Hd) = h by simp [stAt]]; exact Hen5.out, Hown5.out⟩, by simpa [plFrom] using World.ownsRow_nil _ _ _ _⟩
          case round =>
            obtain ⟨j, hj, rfl, hin⟩ := hrel
            obtain ⟨hext, hB2, ⟨v, hen, hrow⟩, hout⟩ := hin
            have hinv := Hst.out j
            have HQ := Lib.hid (show stAt d.interval L h.fin (ns.take j) = ((stAt d.interval L h.fin (ns.take j)).1, (stAt d.interval L h.fin (ns.take j)).2) from rfl)
            generalize (stAt d.interval L h.fin (ns.take j)).1 = Lj at *
            generalize (stAt d.interval L h.fin (ns.take j)).2 = fj at *
            obtain ⟨hi1j, hi2j, hi3j, hi4j⟩ := hinv
            have htj : (ns.take j).length ≤ 1000 := by simp; omega
            have hwz := hext.size
            by_cases hlt : j < ns.length
            · have hltI : (j : Int) < ns.length := by omega
              obtain ⟨b, off, rfl, hbb, hc⟩ := (Hl.out.ext hext).at j hlt
              have hck := hc j hlt
              have hnj := Hbad.out (ns.getD j 0) (by simp [List.getD, hlt])
              have HN := Lib.hid (fun o' w8 v => plIn_next (w := w) (B := w3.heap.size) (xb := w4.heap.size) (B2 := w5.heap.size) (p := p) (n := n) (cap := cap) (h := h) (d := d) (o' := o') (w8 := w8) (v := v) (wr := wr) hlt HQ.out)
              clear hc
              generalize ns.getD j 0 = nj at *
              obtain ⟨N, rfl⟩ := Int.eq_ofNat_of_zero_le (show 0 ≤ nj by omega)
              have hz : zsL (N : Int) = List.replicate N 0 := by simp [zsL]
              rw [hz] at HN
              have hmk := run_make_bytes (P := Tryd.prog) wr 94 5 i0 N Tryd.underlying94 Hi.out hz0 hz1 hz2 (by omega)
              have hcv := run_new_string (P := Tryd.prog) wr 94 9 5 N N (List.replicate N 0) 5 Tryd.underlying94 Tryd.underlying5 Tryd.underlying9 (by simp)
              have hRl : (List.replicate N (0 : UInt8)).length ≤ 1000000 := by simp; omega
              have Had := Lib.hid (fun W hx ho => add_any w3.heap.size w4.heap.size p n cap { h with count := h.count + j, fin := fj } d v Lj (List.replicate N 0) hz34 W hx ho ⟨by omega, fun s hs => by have := le_sumLen Lj s hs; omega⟩ hRl hi1j (show 0 ≤ fj by omega) (show fj ≤ 20000000 by omega) (show 0 ≤ h.count + j by omega) (show h.count + j ≤ 20000000 by omega) (show 0 ≤ d.interval by omega) hi1)
              generalize List.replicate N (0 : UInt8) = R at *
              have Hen := Lib.hid hen
              have Hrow := Lib.hid hrow
              have Hout := Lib.hid hout
              have Hext := Lib.hid hext
              clear hz hen hrow hout hext
              go_wp2_with (first
                | (go_at_call 38; refine (Had.out (wr.alloc (.cells (byteCells R) 5)) (Hen.out.ext (Ext.alloc wr (.cells (byteCells R) 5))) (own_ext Hrow.out (Ext.alloc wr (.cells (byteCells R) 5)))).mono ?_; rintro e w7 ⟨rfl, hb7, ht7, v7, hen7, hrow7⟩; have hout6 := own_ext Hout.out (Ext.alloc wr (.cells (byteCells R) 5)); have hout7 := own_two hout6 ht7 (en_apart hout6 (Hen.out.ext (Ext.alloc wr (.cells (byteCells R) 5)))) (own_apart hout6 (own_ext Hrow.out (Ext.alloc wr (.cells (byteCells R) 5))) (by decide)); have hE7 := Ext.trans' (Hext.out.trans (Ext.alloc wr (.cells (byteCells R) 5))) (Below.mono hb7 hzw); have hz7 := ht7.size; simp at hz7; have hE7a := Ext.alloc w7 (.cells #[.int .i64 (addAt d.interval Lj fj R)] 3); have Hen7 := Lib.hid (hen7.ext hE7a); have Hrow7 := Lib.hid (own_ext hrow7 hE7a); have Hout7 := Lib.hid (own_ext hout7 hE7a); have HE7 := Lib.hid (hE7.trans hE7a); clear hen7 hrow7 hout6 hout7 hE7 hb7 ht7 hE7a)
                | (at_builtin; go_must (refine wpList_app rfl (.tmp 46) (.tmp 51) 43 3 rfl w5.heap.size (.int .i64 0) 1 8 Tryd.underlying43 infoInt rfl (by decide) _ _ _ rfl Hout7.out _ [.int .i64 (addAt d.interval Lj fj R)] rfl (Blk.new w7 _) rfl (by intro u hu; simp at hu; subst hu; rfl) (by omega) (by decide) (by simp; omega) ?_; intro v8 w8 hout8 hgr8; have hen8 := en_grown2 Hout7.out Hen7.out hgr8; have hrow8 := Hrow7.out.kept hgr8 (own_apart Hrow7.out Hout7.out (by decide)); have hE8 := Ext.trans' HE7.out (Below.of_grown (B := w.heap.size) hgr8 Hout7.out (by omega) (by simp; omega)); have hz8 := hgr8.size; simp at hz8)))
              go_roundw
              case rel => exact ⟨j + 1, by omega, by go_num, HN.out _ _ _ hE8 (by omega) hen8 hrow8 hout8⟩
              case measure => simp [intOf]; omega
            · have hltI : decide ((j : Int) < ns.length) = false := by simp; omega
              obtain rfl : j = ns.length := by omega
              rw [List.take_length] at hout
              obtain ⟨qo, co, rfl, hqo, hlo⟩ := own_ints hout
              have Hout9 := Lib.hid hout
              have Hqo := Lib.hid hqo
              have Hlo := Lib.hid hlo
              have Hext := Lib.hid hext
              clear hout hen hrow hqo hlo hext
              go_wp2_with fail
              go_ret2
              exact ⟨plOut_yes Hext.out HR2.out Hlo.out.symm Hqo.out, plOwn_yes HE5.out.size HR2.out Hout9.out⟩
        · have hxI : (x != 0) = true := by simpa using hx
          have HR2 : Hid (placesOf m h d ns = ([], x)) := Lib.hid (by rw [HR.out, if_pos hx])
          clear hx
          go_wp2_with (first | (refine wpList_put rfl 82 (.tmp 12) (.tmp 35) rfl _ #[.iface 29 (.slice p n cap), .int .i64 h.applied, .int .i64 h.count, .int .i64 h.fin, .int .i64 h.root, .int .i64 h.height, .int .i64 h.splits, .int .i64 h.areas, .int .i64 d.id, .int .i64 d.org, .int .i64 d.format, .int .i64 d.length, .int .i64 d.block, .int .i64 d.keyAt, .int .i64 d.keyLength, .int .i64 d.interval, .int .i64 d.area, .int .i64 d.freeInterval, .int .i64 d.freeArea, .int .i64 d.base, .int .i64 d.altAt, .int .i64 d.altLength, .bool d.unique, .int .i64 d.cls, .string ⟨d.volume.toArray⟩, .string ⟨d.owner.toArray⟩, .int .i64 d.created, .int .i64 d.expires, .bool d.archived, .slice q4 L.length c4] rfl rfl _ _ (Blk.new w4 _) enSize rfl (en_one p n cap h d q4 L.length c4) ?_; intro w5 hen hc5; have he5 : Ext w4 w5 := hc5.ext (Ext.alloc _ _) (Nat.le_refl _)))
          go_ret2
          exact ⟨plOut_no (HE4.out.trans he5) HR2.out, plOwn_no HR2.out⟩
    · have HBAD := Lib.hid hbad
      have HR : Hid (placesOf m h d ns = ([], 2)) := Lib.hid (by unfold placesOf; rw [if_neg (by simp [HD.out]), if_pos HBAD.out])
      clear hbad
      go_wp2_with (first | (refine wpList_put rfl 77 (.tmp 10) (.tmp 21) rfl _ #[.iface 29 (.slice p n cap), .int .i64 h.applied, .int .i64 h.count, .int .i64 h.fin, .int .i64 h.root, .int .i64 h.height, .int .i64 h.splits, .int .i64 h.areas, .int .i64 d.id, .int .i64 d.org, .int .i64 d.format, .int .i64 d.length, .int .i64 d.block, .int .i64 d.keyAt, .int .i64 d.keyLength, .int .i64 d.interval, .int .i64 d.area, .int .i64 d.freeInterval, .int .i64 d.freeArea, .int .i64 d.base, .int .i64 d.altAt, .int .i64 d.altLength, .bool d.unique, .int .i64 d.cls, .string ⟨d.volume.toArray⟩, .string ⟨d.owner.toArray⟩, .int .i64 d.created, .int .i64 d.expires, .bool d.archived] rfl rfl _ _ (Blk.new w1 _) clSize rfl (cl_one _ rfl h d) ?_; intro w2 hcl hc2; have he2 : Ext w1 w2 := hc2.ext (Ext.alloc _ _) (Nat.le_refl _)) | (go_at_call 45; refine (ContainsFunc_any ql c ns.length ns _ _ h d _ (Hl.out.ext ((he0.trans he1).trans he2)) rfl (by omega) hcl).mono ?_; rw [HBAD.out]; rintro e w3 ⟨rfl, he3⟩))
      go_ret2
      exact ⟨plOut_no (((he0.trans he1).trans he2).trans he3) HR.out, plOwn_no HR.out⟩
  · have HR : Hid (placesOf m h d ns = ([], doorOf h d 1)) := Lib.hid (by unfold placesOf; rw [if_pos hdo])
    have hdI : (doorOf h d 1 != 0) = true := by simpa using hdo
    generalize doorOf h d 1 = c at *
    clear hdo
    go_wp2_with (first | (refine wpList_put rfl 77 (.tmp 10) (.tmp 21) rfl _ clZero rfl rfl _ _ (Blk.new w1 _) clSize rfl clZero_one ?_; intro w2 hcl hc2; have he2 : Ext w1 w2 := hc2.ext (Ext.alloc _ _) (Nat.le_refl _)))
    go_ret2
    exact ⟨plOut_no ((he0.trans he1).trans he2) HR.out, plOwn_no HR.out⟩
theorem Places_any (p ql : Option Addr) (n cap k c : Nat) (m : List (List UInt8)) (h : Hd) (d : DS) (ns : List Int) (w : World) (hs : Strs w p m) (hn : m.length = n) (hm : Small m) (hl : Ints w ql ns) (hk : ns.length = k) (hk2 : k ≤ 1000) :
    Calls Tryd.prog 19 #[.iface 29 (.slice p n cap), .agg #[.int .i64 h.applied, .int .i64 h.count, .int .i64 h.fin, .int .i64 h.root, .int .i64 h.height, .int .i64 h.splits, .int .i64 h.areas], .agg #[.int .i64 d.id, .int .i64 d.org, .int .i64 d.format, .int .i64 d.length, .int .i64 d.block, .int .i64 d.keyAt, .int .i64 d.keyLength, .int .i64 d.interval, .int .i64 d.area, .int .i64 d.freeInterval, .int .i64 d.freeArea, .int .i64 d.base, .int .i64 d.altAt, .int .i64 d.altLength, .bool d.unique, .int .i64 d.cls, .string ⟨d.volume.toArray⟩, .string ⟨d.owner.toArray⟩, .int .i64 d.created, .int .i64 d.expires, .bool d.archived], .slice ql k c] w (PlOut (placesOf m h d ns) w) := (Places_own p ql n cap k c m h d ns w hs hn hm hl hk hk2).mono fun _ _ a => a.1
end Go.Proofs.YtkhlglkipeoalaaDoor
