/- The walk of the reference's Places. -/
import Derived.Test.YtkhlglkipeoalaaDoorX21
set_option linter.unusedSimpArgs false
set_option linter.unusedVariables false
namespace Go.Proofs.YtkhlglkipeoalaaDoor
open Go.RowKit Dsd

/-- append of some strings to an empty literal that was just made. -/
theorem wpList_append0 {w : World} {ops : Array Oper} {rest : List Oper} {o : Oper} {a : Act} {Q : Exit → Act → World → Prop} (hgd : Region.wanted o (yielded ops a.tmps) = true) (d s : Operand)
    (ho : o.op = .call { callee := .builtin .append, args := #[d, s], argTypes := #[24, 24] }) (b : Nat) (hv : a.eval d = .slice (some ⟨b, 0, none⟩) 0 0) (hb : Blk w b (.cells #[] 9)) (base : Nat) (hbb : base ≤ b)
    (q : Option Addr) (c : Nat) (L : Recs) (hs : a.eval s = .slice q L.length c) (hq : Strs w q L) (hn : L.length ≤ 100000000) (hbase : base ≤ w.heap.size)
    (h : ∀ v' w', w'.ownsRow base 9 1 v' L.length (L.map fun s : List UInt8 => Value.string ⟨s.toArray⟩) → Ext w w' → wpList Tryd.prog ops Q rest (a.put o.dst v') w') : wpList Tryd.prog ops Q (o :: rest) a w :=
  BigFrame.wpList_want hgd fun _ hK => wp_append0 d s 24 9 ho base (.string ByteArray.empty) 1 16 Tryd.underlying24 infoStr rfl b hv hb hbb q L.length c _ hs (by simp) (strs_src hq) hn (by decide) hbase fun v' w' h2 h3 => hK _ _ (h v' w' h2 h3)

set_option maxRecDepth 100000 in
set_option maxHeartbeats 2000000 in
theorem Places_ref_door (p ql : Option Addr) (n cap k c : Nat) (h : Hd) (d : DS) (w : World) (hd : doorOf h d 1 ≠ 0) :
    Calls Tryd.prog 23 #[.slice p n cap, .agg #[.int .i64 h.applied, .int .i64 h.count, .int .i64 h.fin, .int .i64 h.root, .int .i64 h.height, .int .i64 h.splits, .int .i64 h.areas], .agg #[.int .i64 d.id, .int .i64 d.org, .int .i64 d.format, .int .i64 d.length, .int .i64 d.block, .int .i64 d.keyAt, .int .i64 d.keyLength, .int .i64 d.interval, .int .i64 d.area, .int .i64 d.freeInterval, .int .i64 d.freeArea, .int .i64 d.base, .int .i64 d.altAt, .int .i64 d.altLength, .bool d.unique, .int .i64 d.cls, .string ⟨d.volume.toArray⟩, .string ⟨d.owner.toArray⟩, .int .i64 d.created, .int .i64 d.expires, .bool d.archived], .slice ql k c] w fun e w' => e = .returned (.tuple #[.slice none 0 0, .int .i64 (doorOf h d 1)]) ∧ Ext w w' := by
  have Hdo := Lib.hid (Door_any h d 1)
  have hdI : (doorOf h d 1 != 0) = true := by simpa using hd
  generalize doorOf h d 1 = x at *
  clear hd
  go_enter Tryd.func23, Tryd.ntmps23
  go_upto_region 1 with (fail)
  refine wp_name (fun w0 => Ext w w0 ∧ HdAt w0 w.heap.size h ∧ DsAt w0 (w.heap.size + 1) d) (hd_ds w h d) ?_
  rintro w0 ⟨he0, hb1, hb2⟩
  go_wp2_with (first | (refine wpList_ds rfl (.tmp 6) rfl _ rfl d hb2 ?_) | (refine wpList_hd rfl (.tmp 5) rfl _ rfl h hb1 ?_) | (go_at_call 40; refine (Hdo.out _).mono ?_; rintro e w1 ⟨rfl, he1⟩))
  go_ret2
  exact ⟨rfl, he0.trans he1⟩

/-- What stands in the loop of the reference's Places, behind j lengths. -/
def PlRef (w : World) (p : Option Addr) (n cap : Nat) (h : Hd) (d : DS) (L : Recs) (ns : List Int) (j : Nat) (v o : Value) (wr : World) : Prop :=
  Ext w wr ∧ HdAt wr w.heap.size { h with fin := (stAt d.interval L h.fin (ns.take j)).2 } ∧ DsAt wr (w.heap.size + 1) d ∧
    wr.ownsRow w.heap.size 9 1 v (stAt d.interval L h.fin (ns.take j)).1.length ((stAt d.interval L h.fin (ns.take j)).1.map fun s => .string ⟨s.toArray⟩) ∧
    wr.ownsRow w.heap.size 3 1 o j ((plFrom d.interval L h.fin (ns.take j)).map (Value.int .i64))
theorem plRef_next {w : World} {p : Option Addr} {n cap : Nat} {h : Hd} {d : DS} {L : Recs} {ns : List Int} {j : Nat} {v' o' : Value} {w8 : World} {Lj : Recs} {fj : Int} (hj : j < ns.length) (hst : stAt d.interval L h.fin (ns.take j) = (Lj, fj))
    (he : Ext w w8) (hb : HdAt w8 w.heap.size { h with fin := (addOf d.interval Lj fj (zsL (ns.getD j 0))).2 }) (hd : DsAt w8 (w.heap.size + 1) d)
    (hrow : w8.ownsRow w.heap.size 9 1 v' (addOf d.interval Lj fj (zsL (ns.getD j 0))).1.length ((addOf d.interval Lj fj (zsL (ns.getD j 0))).1.map fun s => .string ⟨s.toArray⟩))
    (hout : w8.ownsRow w.heap.size 3 1 o' (j + 1) (((plFrom d.interval L h.fin (ns.take j)).map (Value.int .i64)) ++ [.int .i64 (addAt d.interval Lj fj (zsL (ns.getD j 0)))])) : PlRef w p n cap h d L ns (j + 1) v' o' w8 := by
  have e1 : ns.take (j + 1) = ns.take j ++ [ns.getD j 0] := by rw [List.take_succ_eq_append_getElem hj]; simp [List.getD, hj]
  refine ⟨he, ?_, hd, ?_, ?_⟩
  · rw [e1, stAt_snoc, hst]; exact hb
  · rw [e1, stAt_snoc, hst]; exact hrow
  · rw [e1, plFrom_snoc, hst, List.map_append]; exact hout

set_option maxRecDepth 100000 in
set_option maxHeartbeats 4000000 in
theorem Places_ref_main (p ql : Option Addr) (n cap k c : Nat) (m : List (List UInt8)) (h : Hd) (d : DS) (ns : List Int) (w : World) (hs : Strs w p m) (hn : m.length = n) (hm : Small m) (hl : Ints w ql ns) (hk : ns.length = k) (hk2 : k ≤ 1000) (hd : doorOf h d 1 = 0) :
    Calls Tryd.prog 23 #[.slice p n cap, .agg #[.int .i64 h.applied, .int .i64 h.count, .int .i64 h.fin, .int .i64 h.root, .int .i64 h.height, .int .i64 h.splits, .int .i64 h.areas], .agg #[.int .i64 d.id, .int .i64 d.org, .int .i64 d.format, .int .i64 d.length, .int .i64 d.block, .int .i64 d.keyAt, .int .i64 d.keyLength, .int .i64 d.interval, .int .i64 d.area, .int .i64 d.freeInterval, .int .i64 d.freeArea, .int .i64 d.base, .int .i64 d.altAt, .int .i64 d.altLength, .bool d.unique, .int .i64 d.cls, .string ⟨d.volume.toArray⟩, .string ⟨d.owner.toArray⟩, .int .i64 d.created, .int .i64 d.expires, .bool d.archived], .slice ql k c] w (PlOut (placesOf m h d ns) w) := by
  subst hk
  have Hs := Lib.hid hs
  have Hl := Lib.hid hl
  have hdo := Door_any h d 1
  rw [hd] at hdo
  have Hdo := Lib.hid hdo
  have Hlo := Lib.hid (fun w hs => Load_ref p cap n m d h.fin w hs hn hm)
  obtain ⟨hva, hpl, hor⟩ := door_zero hd
  obtain ⟨v1, v2, v3, v4, v5, v6⟩ := valid_spec hva
  obtain ⟨p1, p2, p3, p4⟩ := plain_spec hpl
  have hiv : 128 ≤ d.interval ∧ d.interval ≤ 512 := by rcases isSize_spec v3 with h | h | h <;> omega
  obtain ⟨hi0, hi1⟩ := hiv
  have HD := Lib.hid hd
  clear hs hl hdo hd hva hpl hor v1 v2 v3 v6
  go_enter Tryd.func23, Tryd.ntmps23
  go_upto_region 1 with (fail)
  refine wp_name (fun w0 => Ext w w0 ∧ HdAt w0 w.heap.size h ∧ DsAt w0 (w.heap.size + 1) d) (hd_ds w h d) ?_
  rintro w0 ⟨he0, hb1, hb2⟩
  go_wp2_with (first | (refine wpList_ds rfl (.tmp 6) rfl _ rfl d hb2 ?_) | (refine wpList_hd rfl (.tmp 5) rfl _ rfl h hb1 ?_) | (go_at_call 40; refine (Hdo.out _).mono ?_; rintro e w1 ⟨rfl, he1⟩; have hb1 := hb1.ext he1; have hb2 := hb2.ext he1))
  have Hb1 := Lib.hid hb1
  have Hb2 := Lib.hid hb2
  have HE1 := Lib.hid (he0.trans he1)
  have hz1 : w.heap.size + 1 < w1.heap.size := Blk.lt hb2
  clear hb1 hb2 he0 he1
  go_loopw [11] (fun i wr => ∃ j : Nat, j ≤ ns.length ∧ i = .int .i64 j ∧ (ns.take j).any (badB d) = false ∧ Ext w1 wr) (fun i _ => ns.length - (intOf i).toNat)
  case atStart => exact ⟨0, Nat.zero_le _, rfl, by simp, Ext.refl _⟩
  case round =>
    obtain ⟨j, hj, rfl, hq, hext⟩ := hrel
    have Hq := Lib.hid hq
    have Hext := Lib.hid hext
    have c3 : wr.cell? ⟨w.heap.size + 1, 3, none⟩ = some (.int .i64 d.length) := Blk.val (Hb2.out.ext hext) 3 _ rfl
    clear hq hext
    by_cases hlt : j < ns.length
    · have hltI : (j : Int) < ns.length := by omega
      obtain ⟨b, off, rfl, hbb, hc⟩ := (Hl.out.ext (HE1.out.trans Hext.out)).at j hlt
      have hck := hc j hlt
      have HA : Hid (∀ x, ns.getD j 0 = x → badB d x = true → placesOf m h d ns = ([], 2)) := Lib.hid (fun x hx hb => by
        have hany : ns.any (badB d) = true := by
          rw [List.any_eq_true]
          exact ⟨ns[j], List.getElem_mem hlt, by rw [← hx] at hb; simpa [List.getD, hlt] using hb⟩
        unfold placesOf; rw [if_neg (by simp [HD.out]), if_pos hany])
      have HT : Hid (∀ x, ns.getD j 0 = x → (ns.take (j + 1)).any (badB d) = badB d x) := Lib.hid (fun x hx => by
        rw [List.take_succ_eq_append_getElem hlt, List.any_append, Hq.out, ← hx]; simp [List.getD, hlt])
      clear hc
      generalize ns.getD j 0 = x at *
      have HA := Lib.hid (HA.out x rfl)
      have HT := Lib.hid (HT.out x rfl)
      by_cases hx1 : x < 1
      · have hx1I : decide (x < 1) = true := decide_eq_true hx1
        have HR := Lib.hid (HA.out (by simp [badB]; omega))
        clear hx1
        go_wp2_with fail
        go_quiet (fail)
        go_wp2_with fail
        go_ret2
        exact plOut_no ((HE1.out.trans Hext.out).trans (Ext.drewN _ _)) HR.out
      · have hx1I : decide (x < 1) = false := decide_eq_false hx1
        by_cases hx2 : d.length < x
        · have hx2I : decide (d.length < x) = true := decide_eq_true hx2
          have HR := Lib.hid (HA.out (by simp [badB]; omega))
          clear hx1 hx2
          go_wp2_with fail
          go_quiet (fail)
          go_wp2_with fail
          go_ret2
          exact plOut_no ((HE1.out.trans Hext.out).trans (Ext.drewN _ _)) HR.out
        · have hx2I : decide (d.length < x) = false := decide_eq_false hx2
          have hbx : badB d x = false := by simp [badB]; omega
          rw [hbx] at HT
          clear hx1 hx2 hbx
          go_wp2_with fail
          go_quiet (fail)
          go_wp2_with fail
          go_roundw
          case rel => exact ⟨j + 1, by omega, by go_num, HT.out, Hext.out.trans (Ext.drewN _ _)⟩
          case measure => simp [intOf]; omega
    · have hltI : decide ((j : Int) < ns.length) = false := decide_eq_false (by omega)
      obtain rfl : j = ns.length := by omega
      have hbad := Hq.out
      rw [List.take_length] at hbad
      have Hbad := Lib.hid (any_take d ns hbad)
      have HR := Lib.hid (show placesOf m h d ns = _ by unfold placesOf; rw [if_neg (by simp [HD.out]), if_neg (by rw [hbad]; simp)])
      clear hbad Hq
      refine wp_name (fun w2 => Ext w w2 ∧ HdAt w2 w.heap.size h ∧ DsAt w2 (w.heap.size + 1) d) ⟨HE1.out.trans Hext.out, Hb1.out.ext Hext.out, Hb2.out.ext Hext.out⟩ ?_
      clear c3
      rintro w2 ⟨he2, hb1, hb2⟩
      have hz2 := he2.size
      have hlb2 : w.heap.size + 1 < w2.heap.size := Blk.lt hb2
      go_upto_region 10 with (fail)
      refine wp_name (fun w3 => Ext w w3 ∧ HdAt w3 w.heap.size h ∧ DsAt w3 (w.heap.size + 1) d ∧ w3.ownsRow w.heap.size 9 1 (.slice (some ⟨w2.heap.size, 0, none⟩) 0 0) 0 []) ⟨he2.trans (Ext.alloc _ _), hb1.alloc _, hb2.alloc _, World.ownsRow_made w2 #[] 0 hz2 (by simp) rfl⟩ ?_
      clear he2 hb1 hb2 Hext Hb1 Hb2
      rintro w3 ⟨he3, hb1, hb2, hown3⟩
      have h2 : w3.cell? ⟨w.heap.size, 2, none⟩ = some (.int .i64 h.fin) := Blk.val hb1 2 _ rfl
      generalize w2.heap.size = ob at *
      have HE3 := Lib.hid he3
      have Hown3 := Lib.hid hown3
      clear he3 hown3
      by_cases hx : ns ≠ [] ∧ (endOfC m d.interval h.fin).2 ≠ 0
      · obtain ⟨hnil, hx⟩ := hx
        have HR2 : Hid (placesOf m h d ns = ([], (loadOf m d.interval h.fin).2)) := Lib.hid (by
          have hf0 : h.fin ≠ 0 := fun e => by apply hx; unfold endOfC; rw [if_pos e]
          rw [HR.out, if_neg hnil, if_pos hx]; unfold endOfC; rw [if_neg hf0])
        have hf0 : h.fin ≠ 0 := fun e => by apply hx; unfold endOfC; rw [if_pos e]
        have hxe : (loadOf m d.interval h.fin).2 ≠ 0 := by unfold endOfC at hx; rw [if_neg hf0] at hx; exact hx
        have hxI : ((loadOf m d.interval h.fin).2 != 0) = true := by simpa using hxe
        have Hlo2 := Lib.hid (fun w hs => (Hlo.out w hs).mono (show ∀ e w', LoadOut m d.interval h.fin w e w' → (e = .returned (.tuple #[.slice none 0 0, .int .i64 (loadOf m d.interval h.fin).2]) ∧ Ext w w') from by
          rintro e w' ⟨he, ⟨_, rfl⟩ | ⟨h3, _⟩⟩
          · exact ⟨rfl, he⟩
          · exact absurd h3 hxe))
        generalize (loadOf m d.interval h.fin).2 = x at *
        have h0I : decide (0 < h.fin) = true := decide_eq_true (by omega)
        have h0P : 0 < h.fin := by omega
        have hlp := List.length_pos_iff.2 hnil
        have hlI : decide ((0 : Int) < ns.length) = true := decide_eq_true (by omega)
        have hlP : (0 : Int) < ns.length := by omega
        clear hnil hx hf0 hxe hltI
        go_wp2_with (first | (refine wpList_ds rfl (.tmp 6) rfl _ rfl d hb2 ?_) | (go_at_call 41; refine (Hlo2.out _ (Hs.out.ext HE3.out)).mono ?_; rintro e w4 ⟨rfl, he4⟩))
        go_ret2
        exact plOut_no (HE3.out.trans he4) HR2.out
      · obtain ⟨L, hL1, hL2, hL3, hL4⟩ : ∃ L : Recs, L.length ≤ 600 ∧ sumLen L ≤ 512 ∧ placesOf m h d ns = (plFrom d.interval L h.fin ns, 0) ∧ ((h.fin = 0 ∨ ns = [] → L = []) ∧ (h.fin ≠ 0 → ns ≠ [] → loadOf m d.interval h.fin = (L, 0))) := by
          by_cases hnil : ns = []
          · exact ⟨[], by simp, by simp [sumLen], by rw [HR.out, if_pos hnil, hnil]; rfl, fun _ => rfl, fun _ h => absurd hnil h⟩
          · have hx2 : (endOfC m d.interval h.fin).2 = 0 := by
              by_cases e : (endOfC m d.interval h.fin).2 = 0
              · exact e
              · exact absurd ⟨hnil, e⟩ hx
            refine ⟨(endOfC m d.interval h.fin).1, endOfC_len m d.interval h.fin, (endOfC_small m d.interval h.fin).2, by rw [HR.out, if_neg hnil, if_neg (by simp [hx2])], fun e => ?_, fun e _ => ?_⟩
            · rcases e with e | e
              · unfold endOfC; rw [if_pos e]
              · exact absurd e hnil
            · unfold endOfC at hx2 ⊢; rw [if_neg e] at hx2 ⊢; rw [← hx2]
        have HR2 := Lib.hid hL3
        have HL0 := Lib.hid hL4.1
        have HLo := Lib.hid hL4.2
        clear hx hL3 hL4 HR
        obtain ⟨B, hB⟩ : ∃ B : Bool, B = !decide (h.fin = 0 ∨ ns = []) := ⟨_, rfl⟩
        have HB := Lib.hid hB
        clear hB
        go_cut [54] (fun s wx => s = .bool B ∧ w3 = wx)
        case first =>
          by_cases h1 : 0 < h.fin
          · have h1I : decide (0 < h.fin) = true := decide_eq_true h1
            by_cases hl0 : (0 : Int) < ns.length
            · have hlI : decide ((0 : Int) < ns.length) = true := decide_eq_true hl0
              have hlN : decide (0 < ns.length) = true := decide_eq_true (by omega)
              have hBt : B = true := by
                have hnn : ns ≠ [] := by intro e; rw [e] at hl0; simp at hl0
                rw [HB.out]; simp [hnn]; omega
              subst hBt
              go_wp2_with fail
              go_meet
              exact ⟨rfl, rfl⟩
            · have hlI : decide ((0 : Int) < ns.length) = false := decide_eq_false hl0
              have hlN : decide (0 < ns.length) = false := decide_eq_false (by omega)
              have hBt : B = false := by
                have hnn : ns = [] := List.eq_nil_of_length_eq_zero (by omega)
                rw [HB.out]; simp [hnn]
              subst hBt
              go_wp2_with fail
              go_meet
              exact ⟨rfl, rfl⟩
          · have h1I : decide (0 < h.fin) = false := decide_eq_false h1
            have hBt : B = false := by
              have : h.fin = 0 := by omega
              rw [HB.out]; simp [this]
            subst hBt
            go_wp2_with fail
            go_meet
            exact ⟨rfl, rfl⟩
        case rest =>
          obtain ⟨rfl, rfl⟩ := hcut
          go_upto_if 54 with (fail)
          go_cut [12] (fun v wx => Ext w wx ∧ HdAt wx w.heap.size h ∧ DsAt wx (w.heap.size + 1) d ∧ wx.ownsRow w.heap.size 9 1 v L.length (L.map fun s => .string ⟨s.toArray⟩))
          case first =>
            cases B
            · have h0 : h.fin = 0 ∨ ns = [] := by have := HB.out; by_cases e : h.fin = 0 ∨ ns = []; exact e; simp [e] at this
              have e := HL0.out h0
              subst e
              clear h0
              go_wp2_with fail
              go_meet
              exact ⟨HE3.out, hb1, hb2, Hown3.out⟩
            · have h0 : ¬ (h.fin = 0 ∨ ns = []) := by have := HB.out; intro e; simp [e] at this
              have HL := Lib.hid (HLo.out (fun e => h0 (.inl e)) (fun e => h0 (.inr e)))
              clear h0
              go_wp2_with (first | (refine wpList_ds rfl (.tmp 6) rfl _ rfl d hb2 ?_) | (go_at_call 41; refine (Hlo.out _ (Hs.out.ext HE3.out)).mono ?_; rintro e w4 ⟨he4, hc⟩; rw [HL.out] at hc; rcases hc with ⟨h3, _⟩ | ⟨_, q, cq, rfl, hsm, hown⟩; exact absurd rfl h3; have Hown4 := Lib.hid (own_le hown HE3.out.size); clear hown))
              go_meet
              exact ⟨HE3.out.trans he4, hb1.ext he4, hb2.ext he4, Hown4.out⟩
          case rest =>
            obtain ⟨he4, hb4, hb5, hown4⟩ := hcut
            have Hst := Lib.hid (fun j => stAt_inv d.interval L h.fin hL1 hL2 (ns.take j) (fun n hn => by have := (Hbad.out n (List.mem_of_mem_take hn)).2; omega))
            obtain ⟨i0, hi, hz0, hz1, hz2⟩ := info_parts infoByte
            have Hi := Lib.hid hi
            obtain ⟨q4, k4, rfl⟩ := own_slice hown4
            have HE4 := Lib.hid he4
            have Hb4 := Lib.hid hb4
            have Hb5 := Lib.hid hb5
            have Hown4 := Lib.hid hown4
            have hz4 := he4.size
            clear hi he4 hb4 hb5 hown4 hb1 hb2 h2 Hown3 HE3 HL0 HLo HB Hlo Hdo
            go_upto_region 16 with (fail)
            refine wp_name (fun w5 => PlRef w p n cap h d L ns 0 (.slice q4 L.length k4) (.slice (some ⟨wc.heap.size, 0, none⟩) 0 0) w5) ⟨HE4.out.trans (Ext.alloc _ _), by rw [show ({ h with fin := (stAt d.interval L h.fin (ns.take 0)).2 } : Hd) = h by simp [stAt]]; exact Hb4.out.alloc _, Hb5.out.alloc _, own_ext Hown4.out (Ext.alloc _ _), World.ownsRow_made wc #[] 0 hz4 (by simp) rfl⟩ ?_
            intro w5 hin5
            generalize wc.heap.size = wz at *
            have Hin5 := Lib.hid hin5
            clear hin5 Hb4 Hb5 Hown4 HE4 hz4
            go_wp2_with fail
            go_loopw [12, 15, 16] (fun v o i wr => ∃ j : Nat, j ≤ ns.length ∧ i = .int .i64 j ∧ PlRef w p n cap h d L ns j v o wr) (fun _ _ i _ => ns.length - (intOf i).toNat)
            case atStart => exact ⟨0, Nat.zero_le _, rfl, Hin5.out⟩
            case round =>
              obtain ⟨j, hj, rfl, hin⟩ := hrel
              obtain ⟨hext, hb1, hb2, hrow, hout⟩ := hin
              have hinv := Hst.out j
              have HQ := Lib.hid (show stAt d.interval L h.fin (ns.take j) = ((stAt d.interval L h.fin (ns.take j)).1, (stAt d.interval L h.fin (ns.take j)).2) from rfl)
              generalize (stAt d.interval L h.fin (ns.take j)).1 = Lj at *
              generalize (stAt d.interval L h.fin (ns.take j)).2 = fj at *
              obtain ⟨hi1j, hi2j, hi3j, hi4j⟩ := hinv
              have htj : (ns.take j).length ≤ 1000 := by simp; omega
              have hwz := hext.size
              obtain ⟨qo, co, rfl, hqo, hlo⟩ := own_ints hout
              obtain ⟨qj, kj, rfl⟩ := own_slice hrow
              have Hb1 := Lib.hid hb1
              have Hb2 := Lib.hid hb2
              have Hrow := Lib.hid hrow
              have Hout := Lib.hid hout
              have Hext := Lib.hid hext
              by_cases hlt : j < ns.length
              · have hltI : (j : Int) < ns.length := by omega
                obtain ⟨b, off, rfl, hbb, hc⟩ := (Hl.out.ext hext).at j hlt
                have hck := hc j hlt
                have hnj := Hbad.out (ns.getD j 0) (by simp [List.getD, hlt])
                have HN := Lib.hid (fun v' o' w8 => plRef_next (w := w) (p := p) (n := n) (cap := cap) (h := h) (d := d) (v' := v') (o' := o') (w8 := w8) hlt HQ.out)
                clear hc hb1 hb2 hrow hout hext hqo hlo
                generalize ns.getD j 0 = nj at *
                obtain ⟨N, rfl⟩ := Int.eq_ofNat_of_zero_le (show 0 ≤ nj by omega)
                have hz : zsL (N : Int) = List.replicate N 0 := by simp [zsL]
                rw [hz] at HN
                have hmk := run_make_bytes (P := Tryd.prog) wr 94 5 i0 N Tryd.underlying94 Hi.out hz0 hz1 hz2 (by omega)
                have hcv := run_new_string (P := Tryd.prog) wr 94 9 5 N N (List.replicate N 0) 5 Tryd.underlying94 Tryd.underlying5 Tryd.underlying9 (by simp)
                have hRl : (List.replicate N (0 : UInt8)).length ≤ 200 := by simp; omega
                generalize List.replicate N (0 : UInt8) = R at *
                clear hz
                go_upto_region 20 with (fail)
                refine wp_name (fun w6 => Ext wr w6) (Ext.alloc _ _) ?_
                intro w6 he6
                clear hmk hcv
                have hb6 := Hb1.out.ext he6
                have hb7 := Hb2.out.ext he6
                have c2 : w6.cell? ⟨w.heap.size, 2, none⟩ = some (.int .i64 fj) := Blk.val hb6 2 _ rfl
                have c7 : w6.cell? ⟨w.heap.size + 1, 7, none⟩ = some (.int .i64 d.interval) := Blk.val hb7 7 _ rfl
                have hbz6 : w.heap.size + 1 < w6.heap.size := Blk.lt hb7
                have hbz6b : w.heap.size < w6.heap.size := by omega
                have hown6 := own_ext Hrow.out he6
                have hsq6 : Strs w6 qj Lj := by
                  obtain ⟨q', k', he, hq, _⟩ := own_strs2 hown6
                  simp at he; obtain ⟨rfl, rfl⟩ := he; exact hq
                have Hsq6 := Lib.hid hsq6
                have Hb6 := Lib.hid hb6
                have Hb7 := Lib.hid hb7
                have Hown6 := Lib.hid hown6
                have Hout6 := Lib.hid (own_ext Hout.out he6)
                have HE6 := Lib.hid (Hext.out.trans he6)
                clear hb6 hb7 hown6 hsq6 he6
                have hK := addOf_kept d.interval fj Lj R
                have HN := HN.out
                simp only [hK.1, hK.2] at HN
                have HN := Lib.hid HN
                clear hK
                have HRS : Hid (resetB d.interval fj Lj R = (decide (fj = 0) || !fitsB d.interval (Lj ++ [R]))) := Lib.hid rfl
                have HKL : Hid (keptL d.interval fj Lj R = if resetB d.interval fj Lj R then [] else Lj) := Lib.hid rfl
                have HFL : Hid (finL d.interval fj Lj R = if resetB d.interval fj Lj R then fj + 1 else fj) := Lib.hid rfl
                have hfl : 0 ≤ finL d.interval fj Lj R ∧ finL d.interval fj Lj R ≤ 20000001 := by unfold finL; split <;> omega
                have HSMR : Hid (Small (Lj ++ [R])) := Lib.hid ⟨by simp; omega, fun s hs => by rw [List.mem_append] at hs; rcases hs with hs | hs; have := le_sumLen Lj s hs; omega; simp at hs; subst hs; omega⟩
                generalize resetB d.interval fj Lj R = rst at *
                generalize keptL d.interval fj Lj R = KL at *
                generalize finL d.interval fj Lj R = FL at *
                generalize hft : fitsB d.interval (Lj ++ [R]) = ft at *
                have HFT := Lib.hid hft
                clear hft
                go_cut [94] from 68 to 126 (fun s wx => s = .bool rst ∧ Ext w6 wx)
                case first =>
                  by_cases h0 : fj = 0
                  · have hrs : rst = true := by rw [HRS.out]; simp [h0]
                    subst hrs
                    have h0I : (fj == 0) = true := by simp [h0]
                    clear h0
                    go_quiet (fail)
                    go_wp2_with fail
                    go_meet
                    exact ⟨rfl, Ext.drewN _ _⟩
                  · have hrs : rst = !ft := by rw [HRS.out]; simp [h0]
                    subst hrs
                    have h0I : (fj == 0) = false := by simpa using h0
                    clear h0
                    go_wp2_with fail
                    have Hft := Lib.hid (fun q1 c1 w' hsq => Fits_r q1 c1 (Lj.length + 1) (Lj ++ [R]) d.interval w' hsq (by simp) HSMR.out)
                    rw [HFT.out] at Hft
                    refine wp_region_pk 200 [(11, [(6, 86), (8, 88), (10, 90)])] (Ext.refl w6) (by kernel_rfl) (by kernel_rfl) (by kernel_rfl) (by kernel_rfl) (by kernel_rfl) (by kernel_rfl) (gok_any _ _ _) ?_
                    simp only [List.take_succ_cons, List.take_zero, List.take_nil, List.drop_succ_cons, List.drop_zero, List.drop_nil, List.map_cons, List.map_nil]
                    repeat (first
                      | (refine wpPL_step (o := ⟨some 86, _, _, _, _, _⟩) (NoneF 9 w6.heap.size) (NoneF.stable _ _) (.inl (by kernel_rfl)) (by kernel_rfl) (by first | exact .inl rfl | exact .inr ⟨_, _, _, rfl, rfl, rfl⟩) ?_ ?_
                         · intro a w' he hr K hK
                           go_simp
                           exact hK _ _ (Ext.alloc _ _) ⟨_, rfl, Blk.new _ _, he.size⟩
                         simp only [setL, List.set_cons_succ, List.set_cons_zero])
                      | (refine wpPL_step (o := ⟨some 88, _, _, _, _, _⟩) (RowsF 9 w6.heap.size 1 Lj.length (Lj.map fun s : List UInt8 => Value.string ⟨s.toArray⟩)) (RowsF.stable _ _ _ _ _) (.inl (by kernel_rfl)) (by kernel_rfl) (by first | exact .inl rfl | exact .inr ⟨_, _, _, rfl, rfl, rfl⟩) ?_ ?_
                         · intro a w' he hr K hK
                           obtain ⟨b, hb1, hb2, hb3⟩ := hr 86 (by simp [Oper.looksAt, Op.operands, Call.operands])
                           have hs := hr 87 (by simp [Oper.looksAt, Op.operands, Call.operands])
                           refine wp_append0 (.tmp 86) (.tmp 87) 24 9 rfl w6.heap.size (.string ByteArray.empty) 1 16 Tryd.underlying24 infoStr rfl b hb1 hb2 hb3 _ Lj.length _ (Lj.map fun s : List UInt8 => Value.string ⟨s.toArray⟩) hs (by simp) (strs_src (Strs.ext Hsq6.out he)) (by omega) (by decide) he.size ?_
                           intro v' w'' ho' he'
                           obtain ⟨q', c', rfl⟩ := own_slice ho'
                           exact hK _ _ he' ⟨q', c', rfl, ho'⟩
                         simp only [setL, List.set_cons_succ, List.set_cons_zero])
                      | (refine wpPL_step (o := ⟨some 90, _, _, _, _, _⟩) (Fresh 1 1 (.cells #[.string ⟨R.toArray⟩] 9)) (Fresh.stable _ _ _) (.inl (by kernel_rfl)) (by kernel_rfl) (by first | exact .inl rfl | exact .inr ⟨_, _, _, rfl, rfl, rfl⟩) ?_ ?_
                         · intro a w' he hr K hK
                           simp [Reads, Oper.looksAt, Op.operands, Call.operands, factAt, Is] at hr
                           go_simp
                           exact hK _ _ (Ext.alloc _ _) (Fresh.new _ _ _ _)
                         simp only [setL, List.set_cons_succ, List.set_cons_zero])
                      | (refine wpPL_pivot (o := ⟨some 91, _, _, _, _, _⟩) (RowsF 9 w6.heap.size 1 (Lj.length + 1) ((Lj ++ [R]).map fun s : List UInt8 => Value.string ⟨s.toArray⟩)) (RowsF.stable _ _ _ _ _) (.inl (by kernel_rfl)) (by kernel_rfl) (by first | exact .inl rfl | exact .inr ⟨_, _, _, rfl, rfl, rfl⟩) ?_ ?_
                         · intro a w' he hr K hK
                           obtain ⟨q1, c1, h1, ho1⟩ := hr 88 (by simp [Oper.looksAt, Op.operands, Call.operands])
                           obtain ⟨b, hb1, hb2⟩ := hr 90 (by simp [Oper.looksAt, Op.operands, Call.operands])
                           refine wp_app (.tmp 88) (.tmp 90) 24 9 rfl w6.heap.size (.string ByteArray.empty) 1 16 Tryd.underlying24 infoStr rfl (by decide) _ Lj.length _ h1 ho1 b [.string ⟨R.toArray⟩] hb1 hb2 rfl (by intro u hu; simp at hu; subst hu; rfl) (by omega) (by decide) he.size ?_
                           intro v' w'' ho' hg
                           have hbl := Below.of_grown (B := w6.heap.size) hg ho1 (Nat.le_refl _) he.size
                           obtain ⟨q', c', rfl⟩ := own_slice ho'
                           exact hK _ _ hbl ⟨q', c', rfl, by rw [List.map_append]; exact ho'⟩ (turned_any _ _ _ _)
                         simp only [setL, List.set_cons_succ, List.set_cons_zero])
                      | (refine wpPL_det (o := ⟨some 92, _, _, _, _, _⟩) (v := .bool ft) (by kernel_rfl) (by first | exact .inl rfl | exact .inr ⟨_, _, _, rfl, rfl, rfl⟩) ?_ ?_
                         · intro a w' he hr K hK
                           obtain ⟨q1, c1, h1, ho1⟩ := hr 91 (by simp [Oper.looksAt, Op.operands, Call.operands])
                           simp [Reads, Oper.looksAt, Op.operands, Call.operands, factAt, Is] at hr
                           simp at h1
                           obtain ⟨q2, c2, hv2, hsq, hll, hk1, hk2⟩ := own_strs_p ho1
                           simp at hv2
                           obtain ⟨rfl, rfl⟩ := hv2
                           clear ho1
                           go_simp
                           refine (Hft.out _ _ _ hsq).mono ?_
                           rintro e w'' ⟨rfl, he'⟩
                           exact hK _ he'
                         simp only [setL, List.set_cons_succ, List.set_cons_zero])
                      | (refine wpPL_move _ _ (by kernel_rfl) (by first | exact .inl rfl | exact .inr ⟨_, _, _, rfl, rfl, rfl⟩) (by first | exact .inl rfl | exact .inr rfl) rfl (by first | exact Is.stable _ | exact RowsF.stable _ _ _ _ _ | exact NoneF.stable _ _ | exact Fresh.stable _ _ _ | exact AppF.stable _ | exact WrF.stable _ | exact PtrF.stable _ _ | exact PlF.stable _ _) (by first | exact .inr (Is.strong _ _ _) | exact .inr (AppF.strong _ _ _ _ (by decide)) | exact .inr (WrF.strong _ _ _ _ (by decide)) | exact .inr (RowsF.strong _ _ _ _ _ _ _ _ (by decide)) | exact .inl (by kernel_rfl)) ?_
                         simp only [setL, List.set_cons_succ, List.set_cons_zero, List.getD_cons_succ, List.getD_cons_zero])
                      | (apply wpPL_det (by kernel_rfl) (by first | exact .inl rfl | exact .inr ⟨_, _, _, rfl, rfl, rfl⟩)
                         · intro a w' he hr K hK
                           simp [Reads, Oper.looksAt, Op.operands, Call.operands, factAt, Is] at hr
                           have hx := he.cell
                           go_simp
                           try go_bits
                           try (rw [if_neg (by omega)]; go_simp)
                           first
                             | exact hK _ (Ext.refl _)
                         simp only [setL, List.set_cons_succ, List.set_cons_zero]))
                    intro w2 he2
                    simp only [killL, killIn, List.foldl_cons, List.foldl_nil, List.set_cons_succ, List.set_cons_zero]
                    repeat (first | with_reducible refine rest_is _ _ _ _ ?_ | (with_reducible refine rest_fact _ _ _ _ ?_; intro _ _) | with_reducible refine rest_end _ _ ?_)
                    simp only [List.reverse_cons, List.reverse_nil, List.nil_append, List.cons_append]
                    go_wp2_with fail
                    go_meet
                    exact ⟨rfl, he2⟩
                case rest =>
                  obtain ⟨rfl, hE⟩ := hcut
                  have hb8 := Hb6.out.ext hE
                  have hb9 := Hb7.out.ext hE
                  have hrow9 := own_ext Hown6.out hE
                  have hout9 := own_ext Hout6.out hE
                  have hE9 := HE6.out.trans hE
                  have c2 : wc.cell? ⟨w.heap.size, 2, none⟩ = some (.int .i64 fj) := Blk.val hb8 2 _ rfl
                  have f2 := Blk.free hb8 2
                  have Hb8 := Lib.hid hb8
                  have Hb9 := Lib.hid hb9
                  have Hrow9 := Lib.hid hrow9
                  have Hout9 := Lib.hid hout9
                  have HE9 := Lib.hid hE9
                  clear hb8 hb9 hrow9 hout9 hE9 hE c7
                  go_upto_if 94 with (fail)
                  go_cut [12] from 68 to 126 (fun v wx => HdAt wx w.heap.size { h with fin := FL } ∧ DsAt wx (w.heap.size + 1) d ∧ wx.ownsRow w.heap.size 9 1 v KL.length (KL.map fun s => .string ⟨s.toArray⟩) ∧ wx.ownsRow w.heap.size 3 1 (.slice qo j co) j ((plFrom d.interval L h.fin (ns.take j)).map (Value.int .i64)) ∧ Ext w wx)
                  case first =>
                    cases rst
                    · have e1 := HKL.out
                      have e2 := HFL.out
                      simp only [Bool.false_eq_true, if_false] at e1 e2
                      subst e1 e2
                      go_wp2_with fail
                      go_meet
                      exact ⟨Hb8.out, Hb9.out, Hrow9.out, Hout9.out, HE9.out⟩
                    · have e1 := HKL.out
                      have e2 := HFL.out
                      simp only [if_true] at e1 e2
                      subst e1 e2
                      have hon : (Value.slice qo j co).ownBlock ≠ some w.heap.size := Lib.ownBlock_ne (T := 28) (fr := (0, 0)) Hout9.out Hb8.out (by decide)
                      have Hon := Lib.hid hon
                      clear hon
                      go_wp2_with fail
                      go_region
                      all_goals go_wp2_with fail
                      all_goals go_meet
                      all_goals exact ⟨Blk.setCell (i := 2) (v := .int .i64 (fj + 1)) Hb8.out, (Chg.setCell).blk Hb9.out (by omega), World.ownsRow_nil _ _ _ _, own_ext (own_setRow Hout9.out w.heap.size 2 _ Hon.out) (Ext.drew _), ((Chg.setCell).ext HE9.out (Nat.le_refl _)).trans (Ext.drew _)⟩
                  case rest =>
                    obtain ⟨hb1, hb2, hrow, hout, hE⟩ := hcut
                    obtain ⟨q5, k5, rfl⟩ := own_slice hrow
                    have d2 : wc.cell? ⟨w.heap.size, 2, none⟩ = some (.int .i64 FL) := Blk.val hb1 2 _ rfl
                    have d7 : wc.cell? ⟨w.heap.size + 1, 7, none⟩ = some (.int .i64 d.interval) := Blk.val hb2 7 _ rfl
                    obtain ⟨hfl1, hfl2⟩ := hfl
                    have hm1 : 0 ≤ FL * d.interval := Int.mul_nonneg hfl1 (by omega)
                    have hm2 : FL * d.interval ≤ 20000001 * 512 := Int.mul_le_mul hfl2 hi1 (by omega) (by omega)
                    obtain ⟨M, hM⟩ : ∃ M, FL * d.interval = M := ⟨_, rfl⟩
                    rw [hM] at hm1 hm2 HN
                    have hMw : IntKind.i64.wrap M = M := IntWalk.i64_in _ (by omega)
                    have hkl : KL.length ≤ 600 ∧ sumLen KL ≤ 512 := by
                      rw [HKL.out]
                      split
                      · simp [sumLen]
                      · exact ⟨hi1j, hi2j⟩
                    obtain ⟨hkl1, hkl3⟩ := hkl
                    have hsq5 : Strs wc q5 KL := by
                      obtain ⟨q', k', he, hq, _⟩ := own_strs2 hrow
                      simp at he; obtain ⟨rfl, rfl⟩ := he; exact hq
                    have Hsq5 := Lib.hid hsq5
                    have Hb1 := Lib.hid hb1
                    have Hb2 := Lib.hid hb2
                    have Hout := Lib.hid hout
                    have HE := Lib.hid hE
                    have hzc := hE.size
                    clear hsq5 hb1 hb2 hout hE hrow c2 f2 Hrow9 Hout9 HE9 Hb8 Hb9 Hsq6 Hb6 Hb7 Hown6 Hout6 HE6 Hrow Hext hck
                    go_wp2_with fail
                    clear hM hMw
                    go_loop [18, 19] (fun at' i => ∃ i' : Nat, i' ≤ KL.length ∧ i = .int .i64 i' ∧ at' = .int .i64 (M + (sumLen (KL.take i') : Int))) (fun _ i => KL.length - (intOf i).toNat)
                    case atStart => exact ⟨0, Nat.zero_le _, rfl, by simp [sumLen]⟩
                    case round =>
                      obtain ⟨i', hi', rfl, rfl⟩ := hrel
                      have hsb : sumLen (KL.take i') ≤ 512 := by
                        have h1 := sumLen_append (KL.take i') (KL.drop i')
                        rw [List.take_append_drop] at h1
                        omega
                      by_cases hlt2 : i' < KL.length
                      · have hltI2 : (i' : Int) < KL.length := by omega
                        obtain ⟨b2, off2, rfl, hb, hc⟩ := Hsq5.out.at i' hlt2
                        have hcj := hc i' hlt2
                        have HT := Lib.hid (sumLen_take6 KL i' hlt2)
                        have hxl : (KL.getD i' []).length ≤ 1000000 := by
                          have e : KL.getD i' [] = KL[i'] := by simp [List.getD, hlt2]
                          rw [e]; have := le_sumLen KL _ (List.getElem_mem hlt2); omega
                        clear hc
                        generalize KL.getD i' [] = x at *
                        go_wp2
                        go_round
                        case rel => exact ⟨i' + 1, by omega, by go_num, by rw [HT.out]; go_num⟩
                        case measure => simp [intOf]; omega
                      · have hltI2 : decide ((i' : Int) < KL.length) = false := by simp; omega
                        have hjl : KL.take i' = KL := List.take_of_length_le (by omega)
                        rw [hjl] at hsb ⊢
                        clear hjl
                        obtain ⟨AT, hAT⟩ : ∃ AT : Int, AT = M + (sumLen KL : Int) := ⟨_, rfl⟩
                        rw [← hAT] at HN ⊢
                        clear hAT
                        go_wp2_with (first
                          | (at_builtin; (refine wpList_append0 (o := ⟨some 119, _, _, _, _, _⟩) rfl (.tmp 117) (.tmp 118) rfl wc.heap.size rfl (Blk.new wc _) wc.heap.size (Nat.le_refl _) q5 k5 KL rfl (Hsq5.out.ext (Ext.alloc wc (.cells #[] 9))) (by omega) (by simp) ?_; intro v6 w6' hrow6 he6; have hE6 : Ext wc w6' := (Ext.alloc wc (.cells #[] 9)).trans he6; have Hrow6 := Lib.hid (own_ext hrow6 (Ext.alloc w6' (.cells #[.string ⟨R.toArray⟩] 9))); have HE6' := Lib.hid (hE6.trans (Ext.alloc w6' (.cells #[.string ⟨R.toArray⟩] 9))); have hz6 := hE6.size; clear hrow6 he6 hE6))
                          | (at_builtin; (refine wpList_app (o := ⟨some 122, _, _, _, _, _⟩) rfl (.tmp 119) (.tmp 121) 24 9 rfl wc.heap.size (.string ByteArray.empty) 1 16 Tryd.underlying24 infoStr rfl (by decide) _ KL.length _ rfl Hrow6.out _ [.string ⟨R.toArray⟩] rfl (Blk.new w6' _) rfl (by intro u hu; simp at hu; subst hu; rfl) (by omega) (by decide) (by simp; omega) ?_; intro v7 w7 hrow7 hgr7; have hE7 : Ext wc w7 := Ext.trans' HE6'.out (Below.of_grown (B := wc.heap.size) hgr7 Hrow6.out (Nat.le_refl _) (by simp; omega)); have hE7a := hE7.trans (Ext.alloc w7 (.cells #[.int .i64 AT] 3)); have Hrow7 := Lib.hid (own_ext hrow7 (Ext.alloc w7 (.cells #[.int .i64 AT] 3))); have HE7 := Lib.hid hE7a; have Hout7 := Lib.hid (own_ext Hout.out hE7a); have hz7 := hE7.size; clear hrow7 hgr7 hE7 hE7a))
                          | (at_builtin; (refine wpList_app (o := ⟨some 126, _, _, _, _, _⟩) rfl (.tmp 123) (.tmp 125) 43 3 rfl w.heap.size (.int .i64 0) 1 8 Tryd.underlying43 infoInt rfl (by decide) _ _ _ rfl Hout7.out _ [.int .i64 AT] rfl (Blk.new w7 _) rfl (by intro u hu; simp at hu; subst hu; rfl) (by omega) (by decide) (by simp; omega) ?_; intro v8 w8 hout8 hgr8; have hb18 := Blk.grown (Hb1.out.ext HE7.out) hgr8 (Lib.ownBlock_ne (T := 28) (fr := (0, 0)) Hout7.out (Hb1.out.ext HE7.out) (by decide)); have hb28 := Blk.grown (Hb2.out.ext HE7.out) hgr8 (Lib.ownBlock_ne (T := 23) (fr := (0, 0)) Hout7.out (Hb2.out.ext HE7.out) (by decide)); have hrow8 := Hrow7.out.kept hgr8 (own_apart Hrow7.out Hout7.out (by decide)); have hE8 := Ext.trans' (HE.out.trans HE7.out) (Below.of_grown (B := w.heap.size) hgr8 Hout7.out (Nat.le_refl _) (by simp; omega)); have hz8 := hgr8.size; simp at hz8)))
                        go_roundw
                        case rel => exact ⟨j + 1, by omega, by go_num, HN.out _ _ _ hE8 hb18 hb28 (own_le (by simpa using hrow8) hzc) hout8⟩
                        case measure => simp [intOf]; omega
              · have hltI : decide ((j : Int) < ns.length) = false := decide_eq_false (by omega)
                obtain rfl : j = ns.length := by omega
                rw [List.take_length] at hqo hlo
                have Hqo := Lib.hid hqo
                have Hlo := Lib.hid hlo
                clear hqo hlo hb1 hb2 hrow hout hext
                go_wp2_with fail
                go_ret2
                exact plOut_yes Hext.out HR2.out Hlo.out.symm Hqo.out
end Go.Proofs.YtkhlglkipeoalaaDoor
