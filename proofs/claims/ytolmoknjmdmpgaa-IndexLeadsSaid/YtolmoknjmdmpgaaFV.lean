/- The walk of package index's writer.add: its recursion. -/
import Derived.Test.YtolmoknjmdmpgaaFK
import Derived.Test.YtolmoknjmdmpgaaFG
import Derived.Test.YtolmoknjmdmpgaaFT
set_option linter.unusedSimpArgs false
set_option linter.unusedVariables false
namespace Dsd
theorem ins_len (n : Nd) (i : Int) (b : List UInt8) (p : Int) : (insertNd n i b p).1.ents.length ≤ n.ents.length + 2 := by
  unfold insertNd
  split
  · simp [Nd.zero]
  · split
    · simp [Nd.zero]
    · split
      · simp [Nd.zero]
      · simp only [splE, List.length_append, List.length_take, List.length_drop, List.length_cons, List.length_nil]; omega
theorem spl_len (n : Nd) : (splitNd n).1.ents.length ≤ n.ents.length ∧ (splitNd n).2.1.ents.length ≤ n.ents.length ∧ (splitNd n).2.2.1.length ≤ 32 := by
  unfold splitNd
  split
  · simp [Nd.zero]
  · rename_i h1
    have hv : NSpec n := node_iff.1 (by simpa using h1)
    have hl1 := hv.l1
    split
    · simp [Nd.zero]
    · have hk : (n.ents.length + 1) / 2 - 1 < n.ents.length := by omega
      refine ⟨?_, ?_, (ents_at hv hk).2⟩
      · simp only [clrL_len, List.length_take]; omega
      · simp only [List.length_drop]; omega
end Dsd
namespace Go.Proofs.Ytolmoknjmdmpgaa
open Go.RowKit Dsd
theorem own_cap {w : World} {B : Nat} {e : TypeId} {k n c : Nat} {q : Option Addr} {xs : List Value} (h : w.ownsRow B e k (.slice q n c) n xs) : n ≤ c := by
  rcases h.2 with ⟨e, h0⟩ | ⟨g, cap, cur, e, _, _, h2, _⟩
  · simp only [Value.slice.injEq] at e; omega
  · simp only [Value.slice.injEq] at e
    obtain ⟨_, _, rfl⟩ := e
    exact h2
theorem two_nents {w : World} {g : Nat} {cur : Array Value} {a b : List Ent} (hb : Blk w g (.cells cur 73)) (h : cur.toList.take ((a.length + b.length) * 2) = entCells a ++ entCells b) : Nents w (some ⟨g, 0, none⟩) a ∧ Nents w (some ⟨g, a.length * 2, none⟩) b := by
  have c := cells_take hb h
  constructor
  · have := c.take (entCells a).length
    rwa [List.take_left] at this
  · have := c.drop (entCells a).length
    rwa [List.drop_left, entCells_len, Nat.zero_add] at this
theorem TWr.chg {B g : Nat} {w w1 w2 : World} {t : TypeId} {cs : Array Value} (h : TWr B w w1) (hg : w.heap.size ≤ g) (hB : B ≤ g) (hb : Blk w1 g (.cells cs t)) (c : Chg g w1 w2) : TWr B w w2 :=
  ⟨h.1.trans (rty_chg hb hB c).1, fun b cs t h1 h2 h3 => c.blk (h.2 b cs t h1 h2 h3) (by rintro rfl; have := Blk.lt h3; omega)⟩
theorem WrS.chgT {B wb g : Nat} {h : Hd} {d : DS} {L : List Wr} {w w' : World} {t : TypeId} {cs : Array Value} (k : WrS B wb h d L w) (hb : Blk w g (.cells cs t)) (h1 : 65 ≠ t) (h2 : 45 ≠ t) (c : Chg g w w') : WrS B wb h d L w' := by
  obtain ⟨q, c0, a1, a2, a3⟩ := k
  exact ⟨q, c0, c.blk a1 (ndBlk a1 hb h1), own_chgT a2 h2 hb c, a3⟩
set_option maxRecDepth 100000 in
theorem addN_any (B wb : Nat) (h : Hd) (d : DS) (L : List Wr) (b : List UInt8) (p : Int) (q : Option Addr) (c : Nat) (w : World) (hs : WrS B wb h d L w) (hf : 0 ≤ h.fin ∧ h.fin ≤ 100000000) (hh : 0 ≤ h.height ∧ h.height ≤ 6) (hL : L.length ≤ 900) :
    Calls Try.prog 20 #[.pointer (some ⟨wb, 0, none⟩), .slice q 0 c, .string ⟨b.toArray⟩, .int .i64 p] w (AddOut B wb d (addGo d [] h L b p) w) := by
  have HR := Lib.hid (root_any B wb h d L b p w hs hf hh hL)
  clear hs hf hh hL
  unfold AddOut
  generalize addGo d [] h L b p = r at *
  go_enter Try.func20, Try.ntmps20
  go_wp2_with (go_at_call 31; refine HR.out.mono ?_; rintro e w1 ⟨rfl, h1, h2⟩)
  go_ret
  exact ⟨rfl, h1, h2⟩
set_option maxRecDepth 100000 in
set_option maxHeartbeats 4000000 in
theorem add_any (B wb : Nat) (d : DS) : ∀ (R : List StpX) (h : Hd) (out : List Wr) (b : List UInt8) (p : Int) (q : Option Addr) (c : Nat) (w : World), StAt w q R.reverse → WrS B wb h d out w → 0 ≤ h.fin → h.fin + R.length ≤ 100000000 → 0 ≤ h.height ∧ h.height ≤ 6 → out.length + 2 * R.length ≤ 900 → b.length ≤ 1000000 → (∀ x ∈ R, x.1.2.2.ents.length ≤ 1000) → R.length ≤ 10 → R.length ≤ c →
    Calls Try.prog 20 #[.pointer (some ⟨wb, 0, none⟩), .slice q R.length c, .string ⟨b.toArray⟩, .int .i64 p] w (AddOut B wb d (addGo d (R.map (·.1)) h out b p) w)
  | [], h, out, b, p, q, c, w, _, hs, hf0, hf1, hh, hL, _, _, _, _ => addN_any B wb h d out b p q c w hs ⟨hf0, by simpa using hf1⟩ hh (by simp at hL; omega)
  | x :: R, h, out, b, p, q, c, w, hst, hs, hf0, hf1, hh, hL, hb, hsm, hR, hcR => by
    rw [List.reverse_cons] at hst
    have Hst := Lib.hid hst.init
    obtain ⟨g, rfl, hg, a0, a1, a2, a3, a4, ho⟩ := hst.last
    rw [List.length_reverse] at a0 a1 a2 a3 a4
    obtain ⟨⟨pg, i, nd⟩, q2, c2⟩ := x
    simp only at a0 a1 a2 a3 a4 ho
    have hnd := hsm ((pg, i, nd), q2, c2) (List.mem_cons_self ..)
    simp only at hnd
    have hc2 : nd.ents.length ≤ c2 := by
      rcases ho.2 with ⟨e, h0⟩ | ⟨g, cap, cur, e, _, _, h2, _⟩
      · simp only [Value.slice.injEq] at e; omega
      · simp only [Value.slice.injEq] at e
        obtain ⟨_, _, rfl⟩ := e
        exact h2
    have HS := Lib.hid hs
    have Ho := Lib.hid ho
    rw [List.map_cons]
    obtain ⟨T, hT⟩ : ∃ T, T = addGo d ((pg, i, nd) :: R.map (·.1)) h out b p := ⟨_, rfl⟩
    rw [← hT]
    rw [addGo_cons] at hT
    simp only at hT
    have HIn := Lib.hid (fun W (e : Ext w W) => InsertN_any q2 c2 nd (i : Int) b p W (own_cellsND (own_ext ho e)) (by omega) hb hc2)
    unfold InsOut at HIn
    unfold ndV at HIn
    have HBw : Hid (B ≤ wb ∧ wb < w.heap.size) := Lib.hid (by obtain ⟨_, _, hb, _, hB⟩ := hs; exact ⟨hB, Blk.lt hb⟩)
    have HRec := Lib.hid (fun h' out' b' p' W => add_any B wb d R h' out' b' p' (some ⟨g, 0, none⟩) c W)
    have Hsm : Hid (∀ x ∈ R, x.1.2.2.ents.length ≤ 1000) := Lib.hid (fun x hx => hsm x (List.mem_cons_of_mem _ hx))
    have Hf := Lib.hid (And.intro hf0 (And.intro hf1 (And.intro hh (And.intro hL hR))))
    have HAO : Hid (∀ e w', e = .returned (.int .i64 T.2.2) → WrS B wb T.1 d T.2.1 w' → TWr B w w' → AddOut B wb d T w e w') := Lib.hid (fun e w' h1 h2 h3 => ⟨h1, h2, h3⟩)
    have hRl : R.length ≤ 10 := by simp at hR; omega
    have hRc : R.length ≤ c := by simp at hcR; omega
    clear hcR
    clear hst hs hf0 hf1 hh hL hb hsm hR ho
    generalize AddOut B wb d T w = OUT at *
    obtain ⟨n1, hn1⟩ : ∃ n1, n1 = R.length + 1 := ⟨_, rfl⟩
    rw [show (((pg, i, nd), q2, c2) :: R).length = n1 from hn1.symm]
    have hw1 : IntKind.i64.wrap (((n1 : Nat) : Int) - 1) = ((R.length : Nat) : Int) := by rw [IntWalk.i64_in _ (by omega)]; omega
    have hne : (((n1 : Nat) : Int) == 0) = false := by simp; omega
    have hnz : ¬ n1 = 0 := by omega
    have hRI : ((R.length : Nat) : Int) < ((n1 : Nat) : Int) := by omega
    have hRN : R.length < n1 := by omega
    have Hn1 := Lib.hid hn1
    clear hn1
    generalize hrl : R.length = rl at *
    have Hrl := Lib.hid hrl
    clear hrl
    go_enter Try.func20, Try.ntmps20
    go_upto_region 4 with (refine wpList_put rfl 82 (.tmp 9) (.tmp 29) rfl _ #[.int .i64 pg, .int .i64 (i : Nat), .int .i64 nd.level, .int .i64 nd.next, .slice q2 nd.ents.length c2] rfl rfl _ _ (Blk.new w _) stSize rfl (by simp [Value.oneCell']) ?_; intro w1 hs1 hc1)
    have hx1 := hc1.ext (Ext.alloc w _) (Nat.le_refl _)
    refine wp_name (fun w2 => Ext w w2 ∧ Blk w2 w.heap.size (.cells #[.int .i64 pg, .int .i64 (i : Nat), .int .i64 nd.level, .int .i64 nd.next, .slice q2 nd.ents.length c2] 82)) ⟨hx1, hs1⟩ ?_
    clear hs1 hc1 hx1 a0 a1 a2 a3 a4 hg
    clear w1
    generalize hsb : w.heap.size = sb at *
    rintro w2 ⟨hx2, hs2⟩
    have s0 : w2.cell? ⟨sb, 0, none⟩ = some (.int .i64 pg) := Blk.val hs2 0 _ rfl
    have s1 : w2.cell? ⟨sb, 1, none⟩ = some (.int .i64 (i : Nat)) := Blk.val hs2 1 _ rfl
    have s2 : w2.cell? ⟨sb, 2, none⟩ = some (.int .i64 nd.level) := Blk.val hs2 2 _ rfl
    have s3 : w2.cell? ⟨sb, 3, none⟩ = some (.int .i64 nd.next) := Blk.val hs2 3 _ rfl
    have s4 : w2.cell? ⟨sb, 4, none⟩ = some (.slice q2 nd.ents.length c2) := Blk.val hs2 4 _ rfl
    have ls := Blk.lt hs2
    have HLen := Lib.hid (ins_len nd (i : Int) b p)
    generalize insertNd nd (i : Int) b p = r at *
    obtain ⟨nd2, er⟩ := r
    simp only at hT HIn HLen
    go_upto_region 5 with (first
      | (go_at_call 32; refine (HIn.out _ hx2).mono ?_; rintro e w3 ⟨he3, q3, c3, rfl, hn3, hc3, hgt3⟩; clear hgt3)
      | (refine wpList_put rfl 71 (.tmp 10) (.tmp 38) rfl _ #[.int .i64 nd2.level, .int .i64 nd2.next, .slice q3 nd2.ents.length c3] rfl rfl _ _ (Blk.new w3 _) ndSize rfl (by simp [Value.oneCell']) ?_; intro w4 hn4 hc4))
    have hx4 := hc4.ext (Ext.alloc w3 _) (Nat.le_refl _)
    have hlen2 : nd2.ents.length ≤ 1002 := by
      have := HLen.out
      omega
    refine wp_name (fun w5 => Ext w w5 ∧ Blk w5 sb (.cells #[.int .i64 pg, .int .i64 (i : Nat), .int .i64 nd.level, .int .i64 nd.next, .slice q2 nd.ents.length c2] 82) ∧ Blk w5 w3.heap.size (.cells #[.int .i64 nd2.level, .int .i64 nd2.next, .slice q3 nd2.ents.length c3] 71) ∧ Nents w5 q3 nd2.ents) ⟨hx2.trans (he3.trans hx4), hx4.blk _ _ (he3.blk _ _ hs2), hn4, hn3.ext hx4⟩ ?_
    have Hc3 := Lib.hid hc3
    clear hx2 hs2 he3 hn3 hc3 hn4 hc4 hx4 s0 s1 s2 s3 s4 ls
    generalize w3.heap.size = nb at *
    rintro w5 ⟨hx5, hs5, hn5, ho5⟩
    have HQ5 := Lib.hid (And.intro hx5 (And.intro hs5 (And.intro hn5 ho5)))
    clear hx5 hs5 ho5
    by_cases her : er = 0
    case' neg =>
      have hei : (er != 0) = true := by simpa using her
      have e : T = (h, out, er) := by rw [hT, if_pos her]
      have HO := Lib.hid (fun e' w' h1 h2 h3 => HAO.out e' w' (by rw [e]; exact h1) (by rw [e]; exact h2) h3)
      clear her hT e HAO
      go_wp2_with fail
      exact HO.out _ _ rfl (HS.out.ext HQ5.out.1) (TWr.ofExt HQ5.out.1 (by have := HBw.out; omega))
    have hei : (er != 0) = false := by simp [her]
    rw [if_neg (by simp [her])] at hT
    have HVa := Lib.hid (fun W (e : Ext w5 W) => ValidN_any d.interval q3 c3 nd2 W (HQ5.out.2.2.2.ext e) (by omega))
    unfold ndV at HVa
    subst her
    obtain ⟨qw, cw, hwb, _, _⟩ := HS.out.ext HQ5.out.1
    have k14 : w5.cell? ⟨wb, 14, none⟩ = some (.int .i64 d.interval) := Blk.val hwb 14 _ rfl
    have lwb := Blk.lt hwb
    clear hwb
    go_upto_region 7 with (fail)
    generalize hfits : nodeFits d.interval nd2 = fits at *
    refine wp_region_mk 200 (Ext.refl w5) (by kernel_rfl) (by kernel_rfl) (by kernel_rfl) ?_
    simp only [List.take_succ_cons, List.take_zero, List.take_nil, List.drop_succ_cons, List.drop_zero, List.drop_nil, List.map_cons, List.map_nil]
    repeat (first
      | (refine wpML_det (o := ⟨some 48, _, _, _, _, _⟩) (v := .agg #[.int .i64 nd2.level, .int .i64 nd2.next, .slice q3 nd2.ents.length c3]) rfl ?_ ?_
         · intro a w' he hr K hK
           simp [Reads, Oper.looksAt, Op.operands, factAt, Is] at hr
           exact wp_load_row 71 (.tmp 10) rfl (nb) (by go_simp) _ _ _ _ (he.blk _ _ HQ5.out.2.2.1) ndDesc rfl ndSize (hK _ (Ext.refl _))
         simp only [setL, List.set_cons_succ, List.set_cons_zero])
      | (refine wpML_det (o := ⟨some 49, _, _, _, _, _⟩) (v := .bool fits) rfl ?_ ?_
         · intro a w' he hr K hK
           simp [Reads, Oper.looksAt, Op.operands, Call.operands, factAt, Is] at hr
           go_simp
           refine (HVa.out _ he).mono ?_
           rintro e w'' ⟨rfl, he''⟩
           exact hK _ he''
         simp only [setL, List.set_cons_succ, List.set_cons_zero])
      | (refine wpML_move _ _ rfl (by first | exact .inl rfl | exact .inr rfl) rfl (by first | exact Is.stable _ | exact AppF.stable _ | exact WrF.stable _ | exact PtrF.stable _ _ | exact IfcF.stable (Fresh.stable _ _ _) _ | exact PairF.stable (RowF.stable _ _ _ _) _ | exact RowF.stable _ _ _ _ | exact Fresh.stable _ _ _) ?_
         simp only [setL, List.set_cons_succ, List.set_cons_zero, List.getD_cons_succ, List.getD_cons_zero])
      | (refine wpML_moveC _ rfl (by first | exact .inl rfl | exact .inr rfl) ?_
         simp only [setL, List.set_cons_succ, List.set_cons_zero])
      | (apply wpML_det rfl
         · intro a w' he hr K hK
           simp [Reads, Oper.looksAt, Op.operands, Call.operands, factAt, Is] at hr
           have hx := he.cell
           go_simp
           try go_bits
           try (rw [if_neg (by omega)]; go_simp)
           first
             | exact hK _ (Ext.refl _)
         simp only [setL, List.set_cons_succ, List.set_cons_zero])
      | (apply wpML_det rfl
         · intro a w' he hr K hK
           simp [Reads, Oper.looksAt, Op.operands, Call.operands, factAt, Fresh] at hr
           obtain ⟨b, hr1, hr2⟩ := hr
           go_simp
           exact hK _ (Ext.refl _)
         simp only [setL, List.set_cons_succ, List.set_cons_zero]))
    intro w2 he2
    repeat (first | with_reducible refine rest_is _ _ _ _ ?_ | (with_reducible refine rest_fact _ _ _ _ ?_; intro _ _) | with_reducible refine rest_end _ _ ?_)
    simp only [List.reverse_cons, List.reverse_nil, List.nil_append, List.cons_append]
    have HQ6 := Lib.hid (And.intro (HQ5.out.1.trans he2) (And.intro (he2.blk _ _ HQ5.out.2.1) (And.intro (he2.blk _ _ HQ5.out.2.2.1) (HQ5.out.2.2.2.ext he2))))
    obtain ⟨w6, rfl⟩ : ∃ w6 : World, w6 = w2 := ⟨_, rfl⟩
    have s0 : w6.cell? ⟨sb, 0, none⟩ = some (.int .i64 pg) := Blk.val HQ6.out.2.1 0 _ rfl
    have ls := Blk.lt HQ6.out.2.1
    have hn6 := HQ6.out.2.2.1
    have HPu : Hid (∀ h' L' (page : Int) (n : Nd) (qn : Option Addr) (cn : Nat) W, WrS B wb h' d L' W → Nents W qn n.ents → n.ents.length ≤ 1000000 → L'.length ≤ 1000 → Calls Try.prog 34 #[.pointer (some ⟨wb, 0, none⟩), .int .i64 page, .agg #[.int .i64 n.level, .int .i64 n.next, .slice qn n.ents.length cn]] W fun e w' => e = .returned (.int .i64 (encNE d.interval n)) ∧ WrS B wb h' d (L' ++ [(page, encNS d.interval n)]) w' ∧ TWr B W w') := Lib.hid (fun h' L' page n qn cn W a1 a2 a3 a4 => put_any B wb h' d L' page n qn cn W a1 a2 a3 a4)
    have HBS : Hid (∀ W, Ext w W → B ≤ W.heap.size) := Lib.hid (fun W e => by have := HBw.out; have := e.size; omega)
    clear he2 hn5 k14 lwb HVa HQ5
    cases fits
    · rw [if_neg (by simp)] at hT
      have HSp := Lib.hid (fun W (e : Ext w6 W) => SplitN_any q3 c3 nd2 W (HQ6.out.2.2.2.ext e) (by omega) Hc3.out)
      unfold SplOut at HSp
      unfold ndV at HSp
      have hsl := spl_len nd2
      generalize splitNd nd2 = sp at *
      obtain ⟨lf, rt, mid, es⟩ := sp
      simp only at hT HSp hsl
      go_upto_region 10 with (first
        | ((with_reducible (show wpList _ _ _ (⟨some 56, _, _, _, _, _⟩ :: _) _ _)); refine wpList_row (o := ⟨some 56, _, _, _, _, _⟩) rfl 71 (.tmp 10) rfl _ rfl _ _ _ hn6 ndDesc rfl ndSize ?_)
        | (go_at_call 35; refine (HSp.out _ (Ext.refl _)).mono ?_; rintro e w7 ⟨he7, ql, cl, qr, cr, rfl, hl7, hr7, hcl7, hcr7, hgt7⟩)
        | (refine wpList_put rfl 71 (.tmp 12) (.tmp 58) rfl _ #[.int .i64 lf.level, .int .i64 lf.next, .slice ql lf.ents.length cl] rfl rfl _ _ (Blk.alloc (Blk.new w7 _) _) ndSize rfl (by simp [Value.oneCell']) ?_; intro w8 hl8 hc8)
        | (refine wpList_put rfl 71 (.tmp 13) (.tmp 59) rfl _ #[.int .i64 rt.level, .int .i64 rt.next, .slice qr rt.ents.length cr] rfl rfl _ _ (hc8.blk (Blk.new1 _ _ _ (by simp)) (by omega)) ndSize rfl (by simp [Value.oneCell']) ?_; intro w9 hr9 hc9))
      have hx89 := hc8.ext ((Ext.alloc w7 _).trans (Ext.alloc _ _)) (by omega)
      have hx99 := hc9.ext hx89 (by omega)
      refine wp_name (fun wA => Ext w6 wA ∧ Blk wA w7.heap.size (.cells #[.int .i64 lf.level, .int .i64 lf.next, .slice ql lf.ents.length cl] 71) ∧ Blk wA (w7.heap.size + 1) (.cells #[.int .i64 rt.level, .int .i64 rt.next, .slice qr rt.ents.length cr] 71) ∧ Nents wA ql lf.ents ∧ Nents wA qr rt.ents ∧ (es = 0 → ∃ g9 cur9, ql = some ⟨g9, 0, none⟩ ∧ qr = some ⟨g9, lf.ents.length * 2, none⟩ ∧ Blk wA g9 (.cells cur9 73) ∧ cur9.toList.take ((lf.ents.length + rt.ents.length) * 2) = entCells lf.ents ++ entCells rt.ents)) ⟨he7.trans hx99, hc9.blk hl8 (by omega), hr9, hl7.ext hx99, hr7.ext hx99, fun e0 => (hgt7 e0).imp fun g9 hg9 => hg9.imp fun cur9 hc9' => ⟨hc9'.2.1, hc9'.2.2.1, hx99.blk _ _ hc9'.2.2.2.1, hc9'.2.2.2.2⟩⟩ ?_
      have hlb : sb < w7.heap.size := by have := he7.size; omega
      clear he7 hl7 hr7 hl8 hc8 hr9 hc9 hx89 hx99 hgt7
      generalize w7.heap.size = lb at *
      rintro wA ⟨hxA, hlA, hrA, hnlA, hnrA, hgA⟩
      have HGt := Lib.hid hgA
      clear hgA
      have hBz : B ≤ w.heap.size := by have := HBw.out; omega
      by_cases hes : es = 0
      case' neg =>
        have hei2 : (es != 0) = true := by simpa using hes
        have e : T = (h, out, es) := by rw [hT, if_pos hes]
        have HO := Lib.hid (fun e' w' h1 h2 h3 => HAO.out e' w' (by rw [e]; exact h1) (by rw [e]; exact h2) h3)
        have HX := Lib.hid (HQ6.out.1.trans hxA)
        clear hes hT e HAO hlA hrA hnlA hnrA hxA
        go_wp2_with fail
        exact HO.out _ _ rfl (HS.out.ext HX.out) (TWr.ofExt HX.out hBz)
      subst hes
      rw [if_neg (by simp)] at hT
      obtain ⟨h1, hh1⟩ : ∃ h1 : Hd, h1 = { h with fin := h.fin + 1 } := ⟨_, rfl⟩
      rw [← hh1] at hT
      have Hh1 := Lib.hid hh1
      obtain ⟨EL, hEL⟩ : ∃ EL, EL = Go.Proofs.Ytolmoknjmdmpgaa.encNE d.interval { lf with next := h.fin + 1 } := ⟨_, rfl⟩
      obtain ⟨SL, hSL⟩ : ∃ SL, SL = Go.Proofs.Ytolmoknjmdmpgaa.encNS d.interval { lf with next := h.fin + 1 } := ⟨_, rfl⟩
      rw [← hEL, ← hSL] at hT
      have HEL := Lib.hid hEL
      have HSL := Lib.hid hSL
      clear hEL hSL
      have hfx := Hf.out
      have HFr := Lib.hid (fresh_any B wb h d out wA (HS.out.ext (HQ6.out.1.trans hxA)) (by simp at hfx; omega))
      rw [← hh1] at HFr
      clear hh1
      obtain ⟨g9, cur9, rfl, rfl, hg9, hcur9⟩ := HGt.out rfl
      have hsA := hxA.blk _ _ HQ6.out.2.1
      have HTA := Lib.hid (TWr.ofExt (B := B) (HQ6.out.1.trans hxA) hBz)
      have hL9 := spl_len nd2
      clear hnlA hnrA hfx hL9
      go_upto_region 13 with (first
        | (go_at_call 36; refine HFr.out.mono ?_; rintro e w8 ⟨rfl, hs8, ht8⟩; have hl8 := ht8.2 _ _ _ (by decide) (by decide) hlA; have cl8 : w8.cell? ⟨lb, 1, none⟩ = some (.int .i64 lf.next) := Blk.val hl8 1 _ rfl; have fl8 := Blk.free hl8 1; have ll8 := Blk.lt hl8))
      have hcL := Chg.setCell (w := w8) (g := lb) (i := 1) (v := .int .i64 (h.fin + 1))
      refine wp_name (fun wB => WrS B wb h1 d out wB ∧ TWr B w wB ∧ Blk wB lb (.cells #[.int .i64 lf.level, .int .i64 (h.fin + 1), .slice (some ⟨g9, 0, none⟩) lf.ents.length cl] 71) ∧ Blk wB (lb + 1) (.cells #[.int .i64 rt.level, .int .i64 rt.next, .slice (some ⟨g9, lf.ents.length * 2, none⟩) rt.ents.length cr] 71) ∧ Blk wB sb (.cells #[.int .i64 pg, .int .i64 (i : Nat), .int .i64 nd.level, .int .i64 nd.next, .slice q2 nd.ents.length c2] 82) ∧ Blk wB g9 (.cells cur9 73)) ⟨hs8.chgT hl8 (by decide) (by decide) hcL, (HTA.out.trans ht8).chg (by omega) (by omega) hl8 hcL, Blk.setCell hl8, hcL.blk (ht8.2 _ _ _ (by decide) (by decide) hrA) (by omega), hcL.blk (ht8.2 _ _ _ (by decide) (by decide) hsA) (by omega), hcL.blk (ht8.2 _ _ _ (by decide) (by decide) hg9) (ndBlk (ht8.2 _ _ _ (by decide) (by decide) hg9) hl8 (by decide))⟩ ?_
      clear hcL hl8 cl8 fl8 ll8 hs8 ht8 hlA hrA hsA hg9 hxA HTA HFr HGt
      rintro wB ⟨hsB, htB, hlB, hrB, hbB, hgB⟩
      have s0 : wB.cell? ⟨sb, 0, none⟩ = some (.int .i64 pg) := Blk.val hbB 0 _ rfl
      have ls := Blk.lt hbB
      have hfx := Hf.out
      have HPl : Hid (Calls Try.prog 34 #[.pointer (some ⟨wb, 0, none⟩), .int .i64 pg, .agg #[.int .i64 lf.level, .int .i64 (h.fin + 1), .slice (some ⟨g9, 0, none⟩) lf.ents.length cl]] wB fun e w' => e = .returned (.int .i64 EL) ∧ WrS B wb h1 d (out ++ [(pg, SL)]) w' ∧ TWr B wB w') := Lib.hid (by
        rw [HEL.out, HSL.out]
        exact HPu.out h1 out pg { lf with next := h.fin + 1 } (some ⟨g9, 0, none⟩) cl wB hsB (two_nents hgB hcur9).1 (by have := hsl.1; simp only; omega) (by simp at hfx; omega))
      clear hfx
      have HtB := Lib.hid htB
      go_upto_region 14 with (first
        | ((with_reducible (show wpList _ _ _ (⟨some 71, _, _, _, _, _⟩ :: _) _ _)); refine wpList_row (o := ⟨some 71, _, _, _, _, _⟩) rfl 71 (.tmp 12) rfl _ rfl _ _ _ hlB ndDesc rfl ndSize ?_)
        | (go_at_call 34; refine HPl.out.mono ?_; rintro e w9 ⟨rfl, hs9, ht9⟩))
      have hlC := ht9.2 _ _ _ (by decide) (by decide) hlB
      have hrC := ht9.2 _ _ _ (by decide) (by decide) hrB
      have hgC := ht9.2 _ _ _ (by decide) (by decide) hgB
      have HTC := Lib.hid (htB.trans ht9)
      clear HtB HPl htB hsB hlB hrB hbB hgB ht9 s0 ls
      by_cases hel : EL = 0
      case' neg =>
        have hei2 : (EL != 0) = true := by simpa using hel
        have e : T = (h1, out ++ [(pg, SL)], EL) := by rw [hT, if_pos hel]
        have HO := Lib.hid (fun e' w' h1 h2 h3 => HAO.out e' w' (by rw [e]; exact h1) (by rw [e]; exact h2) h3)
        have HS9 := Lib.hid hs9
        clear hel hT e HAO hlC hrC hgC hs9
        go_wp2_with fail
        exact HO.out _ _ rfl HS9.out HTC.out
      rw [if_neg (by simp [hel])] at hT
      rw [hel]
      clear hel
      have hfx := Hf.out
      obtain ⟨ER, hER⟩ : ∃ ER, ER = Go.Proofs.Ytolmoknjmdmpgaa.encNE d.interval rt := ⟨_, rfl⟩
      obtain ⟨SR, hSR⟩ : ∃ SR, SR = Go.Proofs.Ytolmoknjmdmpgaa.encNS d.interval rt := ⟨_, rfl⟩
      rw [← hER, ← hSR] at hT
      have HER := Lib.hid hER
      have HSR := Lib.hid hSR
      clear hER hSR
      have HPr : Hid (Calls Try.prog 34 #[.pointer (some ⟨wb, 0, none⟩), .int .i64 (h.fin + 1), .agg #[.int .i64 rt.level, .int .i64 rt.next, .slice (some ⟨g9, lf.ents.length * 2, none⟩) rt.ents.length cr]] w9 fun e w' => e = .returned (.int .i64 ER) ∧ WrS B wb h1 d (out ++ [(pg, SL), (h.fin + 1, SR)]) w' ∧ TWr B w9 w') := Lib.hid (by
        rw [HER.out, HSR.out]
        have := HPu.out h1 (out ++ [(pg, SL)]) (h.fin + 1) rt (some ⟨g9, lf.ents.length * 2, none⟩) cr w9 hs9 (two_nents hgC hcur9).2 (by have := hsl.2.1; omega) (by simp at hfx ⊢; omega)
        rwa [List.append_assoc] at this)
      have l1 : w9.cell? ⟨lb, 1, none⟩ = some (.int .i64 (h.fin + 1)) := Blk.val hlC 1 _ rfl
      have ll := Blk.lt hlC
      clear hfx hs9 hgC
      go_upto_region 17 with (first
        | ((with_reducible (show wpList _ _ _ (⟨some 79, _, _, _, _, _⟩ :: _) _ _)); refine wpList_row (o := ⟨some 79, _, _, _, _, _⟩) rfl 71 (.tmp 13) rfl _ rfl _ _ _ hrC ndDesc rfl ndSize ?_)
        | (go_at_call 34; refine HPr.out.mono ?_; rintro e wC ⟨rfl, hsC, htC⟩))
      have hlD := htC.2 _ _ _ (by decide) (by decide) hlC
      have HTD := Lib.hid (HTC.out.trans htC)
      have HSC := Lib.hid hsC
      clear HTC HPr htC hsC hlC hrC l1 ll
      by_cases her2 : ER = 0
      case' neg =>
        have hei2 : (ER != 0) = true := by simpa using her2
        have e : T = (h1, out ++ [(pg, SL), (h.fin + 1, SR)], ER) := by rw [hT, if_pos her2]
        have HO := Lib.hid (fun e' w' h1 h2 h3 => HAO.out e' w' (by rw [e]; exact h1) (by rw [e]; exact h2) h3)
        clear her2 hT e HAO hlD
        go_wp2_with fail
        exact HO.out _ _ rfl HSC.out HTD.out
      rw [if_neg (by simp [her2])] at hT
      rw [her2]
      clear her2
      have hfx := Hf.out
      have HRc : Hid (∀ W, Ext wC W → Calls Try.prog 20 #[.pointer (some ⟨wb, 0, none⟩), .slice (some ⟨g, 0, none⟩) rl c, .string ⟨mid.toArray⟩, .int .i64 (h.fin + 1)] W fun e w' => e = .returned (.int .i64 T.2.2) ∧ WrS B wb T.1 d T.2.1 w' ∧ TWr B W w') := Lib.hid (fun W eW => by
        have a1 : StAt W (some ⟨g, 0, none⟩) R.reverse := (Hst.out.twr HTD.out).ext eW
        have a2 : WrS B wb h1 d (out ++ [(pg, SL), (h.fin + 1, SR)]) W := HSC.out.ext eW
        have a3 : 0 ≤ h1.fin := by rw [Hh1.out]; simp only; omega
        have a4 : h1.fin + rl ≤ 100000000 := by rw [Hh1.out]; have := Hrl.out; simp at hfx ⊢; omega
        have a5 : 0 ≤ h1.height ∧ h1.height ≤ 6 := by rw [Hh1.out]; exact hfx.2.2.1
        have a6 : (out ++ [(pg, SL), (h.fin + 1, SR)]).length + 2 * rl ≤ 900 := by have := Hrl.out; simp at hfx ⊢; omega
        have a7 : mid.length ≤ 1000000 := by have := hsl.2.2; omega
        have a8 := HRec.out h1 (out ++ [(pg, SL), (h.fin + 1, SR)]) mid (h.fin + 1) W a1 a2 a3 a4 a5 a6 a7 Hsm.out hRl hRc
        unfold AddOut at a8
        rw [← hT] at a8
        exact a8)
      have l1 : wC.cell? ⟨lb, 1, none⟩ = some (.int .i64 (h.fin + 1)) := Blk.val hlD 1 _ rfl
      have ll := Blk.lt hlD
      clear hfx hlD hT
      go_upto_region 19 with fail
      refine wp_region_mk 9 (Ext.refl wC) (by kernel_rfl) (by kernel_rfl) (by kernel_rfl) ?_
      simp only [List.take_succ_cons, List.take_zero, List.take_nil, List.drop_succ_cons, List.drop_zero, List.drop_nil, List.map_cons, List.map_nil]
      repeat (first
        | (refine wpML_move _ _ rfl (by first | exact .inl rfl | exact .inr rfl) rfl (by first | exact Is.stable _ | exact AppF.stable _ | exact WrF.stable _ | exact PtrF.stable _ _ | exact IfcF.stable (Fresh.stable _ _ _) _ | exact PairF.stable (RowF.stable _ _ _ _) _ | exact RowF.stable _ _ _ _ | exact Fresh.stable _ _ _) ?_
           simp only [setL, List.set_cons_succ, List.set_cons_zero, List.getD_cons_succ, List.getD_cons_zero])
        | (refine wpML_moveC _ rfl (by first | exact .inl rfl | exact .inr rfl) ?_
           simp only [setL, List.set_cons_succ, List.set_cons_zero])
        | (apply wpML_det rfl
           · intro a w' he hr K hK
             simp [Reads, Oper.looksAt, Op.operands, Call.operands, factAt, Is] at hr
             have hx := he.cell
             go_simp
             try go_bits
             try (rw [if_neg (by omega)]; go_simp)
             first
               | exact hK _ (Ext.refl _)
           simp only [setL, List.set_cons_succ, List.set_cons_zero])
        | (apply wpML_det rfl
           · intro a w' he hr K hK
             simp [Reads, Oper.looksAt, Op.operands, Call.operands, factAt, Fresh] at hr
             obtain ⟨b, hr1, hr2⟩ := hr
             go_simp
             exact hK _ (Ext.refl _)
           simp only [setL, List.set_cons_succ, List.set_cons_zero]))
      intro w2 he2
      repeat (first | with_reducible refine rest_is _ _ _ _ ?_ | (with_reducible refine rest_fact _ _ _ _ ?_; intro _ _) | with_reducible refine rest_end _ _ ?_)
      simp only [List.reverse_cons, List.reverse_nil, List.nil_append, List.cons_append]
      go_wp2_with (first
        | (go_at_call 20; refine (HRc.out _ he2).mono ?_; rintro e wD ⟨rfl, hsD, htD⟩))
      exact HAO.out _ _ rfl hsD ((HTD.out.trans (TWr.ofExt he2 (by have := HTD.out.1.size; omega))).trans htD)
    · rw [if_pos rfl] at hT
      have HO := Lib.hid (fun e' w' h1 h2 h3 => HAO.out e' w' (by rw [hT]; exact h1) (by rw [hT]; exact h2) h3)
      have HPp := Lib.hid (HPu.out h out pg nd2 q3 c3 w6 (HS.out.ext HQ6.out.1) HQ6.out.2.2.2 (by omega) (by have := Hf.out; omega))
      clear hT HAO
      go_wp2_with (first
        | ((with_reducible (show wpList _ _ _ (⟨some 53, _, _, _, _, _⟩ :: _) _ _)); refine wpList_row (o := ⟨some 53, _, _, _, _, _⟩) rfl 71 (.tmp 10) rfl _ rfl _ _ _ hn6 ndDesc rfl ndSize ?_)
        | (go_at_call 34; refine HPp.out.mono ?_; rintro e w7 ⟨rfl, hs7, ht7⟩))
      exact HO.out _ _ rfl hs7 ((TWr.ofExt HQ6.out.1 (by have := HBw.out; omega)).trans ht7)
end Go.Proofs.Ytolmoknjmdmpgaa
/- The walk of package index's Add, where it does not fail. -/
namespace Dsd
theorem steps_rev (m : List (List UInt8)) (h : Hd) (d : DS) (key : List UInt8) : ∀ H, ((List.range H).map (stpAt m h d key)).reverse = stepsTo m h d key H
  | 0 => rfl
  | H + 1 => by rw [List.range_succ, List.map_append, List.reverse_append, steps_rev m h d key H]; rfl
theorem adj_ne {L : List Wr} (h : (L.map (·.1)).Nodup) {k : Nat} (hk : k + 1 < L.length) : (wrAt L (k + 1)).1 ≠ (wrAt L k).1 := by
  have h1 := List.pairwise_iff_getElem.1 h k (k + 1) (by simp; omega) (by simp; omega) (by omega)
  simp only [List.getElem_map] at h1
  unfold wrAt
  simp only [List.getD, List.getElem?_eq_getElem hk, List.getElem?_eq_getElem (show k < L.length by omega), Option.getD_some]
  exact fun e => h1 e.symm
end Dsd
namespace Go.Proofs.Ytolmoknjmdmpgaa
open Go.RowKit Dsd
theorem st_own {w : World} {B n c : Nat} {q : Option Addr} {L : List StpX} (h : w.ownsRow B 82 5 (.slice q n c) n (stC L)) (hn : n = L.length) (hr : StRows w L) : StAt w q L ∧ n ≤ c := by
  refine ⟨⟨?_, hr⟩, own_cap h⟩
  by_cases h0 : L = []
  · exact .inl h0
  · obtain ⟨g, cur, rfl, _, hb, _, _, _, ht⟩ := own_parts h (by rw [hn]; exact List.length_pos_iff.2 h0)
    exact .inr ⟨g, cur, rfl, hb, by rw [← hn]; exact ht⟩
set_option maxRecDepth 100000 in
set_option maxHeartbeats 4000000 in
theorem Add_any (p : Option Addr) (cap n : Nat) (m : List (List UInt8)) (h h1 : Hd) (d : DS) (H : Nat) (qp : Option Addr) (cp n1 : Nat) (b : List UInt8) (base : Int) (W0 : List Wr) (w : World) (hs : Strs w p m) (hn : m.length = n) (hm : Small m) (hz : door22 h d = 0) (hH : h.height = H)
    (her : erTo m h d b H = 0) (hidx : ∀ j, j < H → idxP (pgAt m h d b (j + 1)) (ndAt m h d b j).ents = some (findNd (ndAt m h d b j).ents b)) (hp : Ints w qp (pathTo m h d b H)) (hn1 : n1 = H + 1)
    (hb0 : b ≠ []) (hb32 : b.length ≤ 32) (hbase : 1 ≤ base ∧ base ≤ 16777208) (hgo : addGo d (stepsTo m h d b H) h [] b base = (h1, W0, 0)) (hW1 : 1 ≤ W0.length) (hW12 : W0.length ≤ 12) (hk : ∀ x ∈ W0, 0 ≤ x.1 ∧ x.1 ≤ 20000000) (hnd : (W0.map (·.1)).Nodup) :
    Calls Try.prog 9 #[.iface 28 (.slice p n cap), .agg #[.int .i64 h.applied, .int .i64 h.count, .int .i64 h.fin, .int .i64 h.root, .int .i64 h.height, .int .i64 h.splits, .int .i64 h.areas], .agg #[.int .i64 d.id, .int .i64 d.org, .int .i64 d.format, .int .i64 d.length, .int .i64 d.block, .int .i64 d.keyAt, .int .i64 d.keyLength, .int .i64 d.interval, .int .i64 d.area, .int .i64 d.freeInterval, .int .i64 d.freeArea, .int .i64 d.base, .int .i64 d.altAt, .int .i64 d.altLength, .bool d.unique, .int .i64 d.cls, .string ⟨d.volume.toArray⟩, .string ⟨d.owner.toArray⟩, .int .i64 d.created, .int .i64 d.expires, .bool d.archived], .slice qp n1 cp, .string ⟨b.toArray⟩, .int .i64 base] w fun e w' => Ext w w' ∧ ∃ L' q c, L'.Perm W0 ∧ e = .returned (.tuple #[.agg #[.int .i64 h1.applied, .int .i64 h1.count, .int .i64 h1.fin, .int .i64 h1.root, .int .i64 h1.height, .int .i64 h1.splits, .int .i64 h1.areas], .slice q W0.length c, .int .i64 0]) ∧ w'.ownsRow w.heap.size 45 2 (.slice q W0.length c) W0.length (wrC L') := by
  have hdd := hd_ds_cl w h d #[.int .i64 0, .int .i64 0, .int .i64 0, .int .i64 0, .int .i64 0, .int .i64 0, .int .i64 0] 30
  obtain ⟨k1, k2, k3, k4, k5, k6, k7⟩ := door22_zero hz
  have hH6 : H ≤ 6 := by omega
  have HOp : Hid (∀ W, Calls Try.prog 16 #[.iface 28 (.slice p n cap), .agg #[.int .i64 h.applied, .int .i64 h.count, .int .i64 h.fin, .int .i64 h.root, .int .i64 h.height, .int .i64 h.splits, .int .i64 h.areas], .agg #[.int .i64 d.id, .int .i64 d.org, .int .i64 d.format, .int .i64 d.length, .int .i64 d.block, .int .i64 d.keyAt, .int .i64 d.keyLength, .int .i64 d.interval, .int .i64 d.area, .int .i64 d.freeInterval, .int .i64 d.freeArea, .int .i64 d.base, .int .i64 d.altAt, .int .i64 d.altLength, .bool d.unique, .int .i64 d.cls, .string ⟨d.volume.toArray⟩, .string ⟨d.owner.toArray⟩, .int .i64 d.created, .int .i64 d.expires, .bool d.archived]] W fun e w' => e = .returned (.tuple #[.agg (trC (.slice p n cap) h d), .int .i64 0]) ∧ Ext W w') := Lib.hid (fun W => (open22_any p n cap h d W).mono (fun e w' ⟨h1, h2⟩ => by
    rcases h2 with ⟨_, h3⟩ | ⟨h3, _⟩
    · exact ⟨h3, h1⟩
    · rw [hz] at h3; cases h3))
  have HSt : Hid (∀ W, Ext w W → Calls Try.prog 18 #[.agg (trC (.slice p n cap) h d), .slice qp n1 cp] W fun e w' => ∃ (L : List StpX) (q : Option Addr) (c : Nat), e = .returned (.tuple #[.slice q H c, .int .i64 0]) ∧ Ext W w' ∧ L.map (·.1) = (List.range H).map (stpAt m h d b) ∧ StAt w' q L ∧ H ≤ c) := Lib.hid (fun W eW => by
    rw [hn1]
    exact (steps_any p cap n m h d b qp cp H W (hs.ext eW) hn hm hH hH6 her hidx (hp.ext eW)).mono (fun e w' ⟨a1, L, q, c, a2, a3, a4, a5⟩ => by
      have hl : L.length = H := by have := congrArg List.length a2; simpa using this
      rw [hl] at a3 a4
      obtain ⟨b1, b2⟩ := st_own a4 hl.symm a5
      exact ⟨L, q, c, a3, a1, a2, b1, b2⟩))
  have HAd : Hid (∀ wb W (L : List StpX) q c, L.map (·.1) = (List.range H).map (stpAt m h d b) → StAt W q L → H ≤ c → WrS w.heap.size wb h d [] W → Calls Try.prog 20 #[.pointer (some ⟨wb, 0, none⟩), .slice q H c, .string ⟨b.toArray⟩, .int .i64 base] W fun e w' => e = .returned (.int .i64 0) ∧ WrS w.heap.size wb h1 d W0 w' ∧ TWr w.heap.size W w') := Lib.hid (fun wb W L q c a2 a3 a4 hs => by
    have hl : L.length = H := by have := congrArg List.length a2; simpa using this
    have hlr : L.reverse.length = H := by rw [List.length_reverse, hl]
    have := add_any w.heap.size wb d L.reverse h [] b base q c W (by rw [List.reverse_reverse]; exact a3) hs k6 (by rw [hlr]; omega) ⟨k4, k5⟩ (by rw [hlr]; simp; omega) (by omega) (fun x hx => by
      have hx1 : x.1 ∈ (List.range H).map (stpAt m h d b) := by rw [← a2]; exact List.mem_map_of_mem (List.mem_reverse.1 hx)
      obtain ⟨j, hj, e⟩ := List.mem_map.1 hx1
      rw [← e]
      have hj := List.mem_range.1 hj
      have h0 := erTo_zero her hj
      unfold erAt at h0
      have := (load_spec h0).1.l2
      unfold stpAt ndAt
      simp only
      omega) (by rw [hlr]; omega) (by rw [hlr]; exact a4)
    rw [hlr, List.map_reverse, a2, steps_rev, hgo] at this
    exact this)
  have HTw : Hid (∀ wb W, WrS w.heap.size wb h1 d W0 W → Calls Try.prog 21 #[.pointer (some ⟨wb, 0, none⟩)] W fun e w' => e = .returned (.bool false) ∧ (∃ L', L'.Perm W0 ∧ WrS w.heap.size wb h1 d L' w') ∧ TWr w.heap.size W w') := Lib.hid (fun wb W hs => twice_no w.heap.size wb h1 d _ W hs hW1 hW12 hk (fun L' hP _ k hk => adj_ne ((hP.map _).nodup_iff.2 hnd) hk))
  have HSo : Hid (∀ wb W L', L'.Perm W0 → WrS w.heap.size wb h1 d L' W → Calls Try.prog 22 #[.pointer (some ⟨wb, 0, none⟩)] W fun e w' => ∃ L'' q c, L''.Perm W0 ∧ e = .returned (.slice q W0.length c) ∧ w'.ownsRow w.heap.size 45 2 (.slice q W0.length c) W0.length (wrC L'') ∧ WrS w.heap.size wb h1 d L'' w' ∧ TWr w.heap.size W w') := Lib.hid (fun wb W L1 hP hs => (sorted_any w.heap.size wb h1 d L1 W hs (by rw [hP.length_eq]; exact hW1) (by rw [hP.length_eq]; exact hW12) (fun x hx => hk x (hP.mem_iff.1 hx))).mono (by
    rintro e w' ⟨L', q, c, hp, _, a1, a2, a3, a4⟩
    have hl := (hp.trans hP).length_eq
    rw [hl] at a1 a2
    exact ⟨L', q, c, hp.trans hP, a1, a2, a3, a4⟩))
  have HBa : Hid (∀ W, Calls Try.prog 17 #[.int .i64 base] W fun e w' => e = .returned (.bool true) ∧ w' = W) := Lib.hid (fun W => by
    have := isBase_any base W
    rw [decide_eq_true hbase.1, decide_eq_true hbase.2] at this
    exact this)
  have HBo : Hid (∀ W, Calls Try.prog 19 #[.string ⟨b.toArray⟩] W fun e w' => e = .returned (.bool true) ∧ Ext W w') := Lib.hid (fun W => by
    have := isBound_any b W
    rw [decide_eq_true (show (b.length : Int) ≤ 32 by omega), show b.isEmpty = false by simpa using hb0] at this
    exact this.mono (fun e w' ⟨a1, a2⟩ => ⟨a1, by rw [a2]; exact Ext.refl _⟩))
  have H0 := Lib.hid hH
  have Hp := Lib.hid hp
  have hpl : (pathTo m h d b H).length = n1 := by rw [pathTo_len, hn1]
  have Hpl := Lib.hid hpl
  have hp0 : (pathTo m h d b H).getD 0 0 = h.root := pathTo_at m h d b H (Nat.zero_le _)
  have Hp0 := Lib.hid hp0
  have hne : (h.root != h.root) = false := by simp
  have hnn : (((n1 : Nat) : Int) != ((n1 : Nat) : Int)) = false := by simp
  have hw1 : IntKind.i64.wrap (((H : Nat) : Int) + 1) = ((n1 : Nat) : Int) := by rw [IntWalk.i64_in _ (by omega)]; omega
  have hn0 : (0 : Int) < ((n1 : Nat) : Int) := by omega
  have hn0N : 0 < n1 := by omega
  clear hz hH her hidx hp hpl hp0 hb0 hb32 hbase hgo hW1 hW12 hk hnd k1 k2 k3 k4 k5 k6 k7 hs hn hm hn1
  generalize W0.length = WL at *
  generalize pathTo m h d b H = PA at *
  go_enter Try.func9, Try.ntmps9
  go_upto_region 1 with (fail)
  refine wp_name (fun w0 => Ext w w0 ∧ HdAt w0 w.heap.size h ∧ DsAt w0 (w.heap.size + 1) d ∧ Blk w0 (w.heap.size + 1 + 1) (.cells #[.int .i64 0, .int .i64 0, .int .i64 0, .int .i64 0, .int .i64 0, .int .i64 0, .int .i64 0] 30)) hdd ?_
  clear hdd
  rintro w0 ⟨he0, hb1, hb2, hb3⟩
  go_upto_region 4 with (first
    | ((with_reducible (show wpList _ _ _ (⟨some 21, _, _, _, _, _⟩ :: _) _ _)); refine wpList_hd (o := ⟨some 21, _, _, _, _, _⟩) rfl (.tmp 7) rfl _ rfl h hb1 ?_)
    | ((with_reducible (show wpList _ _ _ (⟨some 22, _, _, _, _, _⟩ :: _) _ _)); refine wpList_ds (o := ⟨some 22, _, _, _, _, _⟩) rfl (.tmp 8) rfl _ rfl d hb2 ?_)
    | (go_at_call 16; refine (HOp.out _).mono ?_; rintro e w1 ⟨rfl, he1⟩)
    | (refine wpList_put rfl 55 (.tmp 15) (.tmp 24) rfl _ (trC (.slice p n cap) h d) rfl rfl _ _ (Blk.new w1 _) trSize rfl (tr_one p n cap h d) ?_; intro w3 ht3 hc3; have hx3 := hc3.ext (Ext.alloc _ _) (Nat.le_refl _)))
  refine wp_name (fun w4 => Ext w w4 ∧ HdAt w4 w.heap.size h ∧ DsAt w4 (w.heap.size + 1) d ∧ Blk w4 (w.heap.size + 1 + 1) (.cells #[.int .i64 0, .int .i64 0, .int .i64 0, .int .i64 0, .int .i64 0, .int .i64 0, .int .i64 0] 30) ∧ Blk w4 w1.heap.size (.cells (trC (.slice p n cap) h d) 55)) ⟨(he0.trans he1).trans hx3, (hb1.ext he1).ext hx3, (hb2.ext he1).ext hx3, hx3.blk _ _ (he1.blk _ _ hb3), ht3⟩ ?_
  clear he0 hb1 hb2 hb3 he1 ht3 hc3 hx3
  generalize w1.heap.size = tb at *
  rintro w4 ⟨hx4, hh4, hd4, hz4, ht4⟩
  have c4 : w4.cell? ⟨w.heap.size, 4, none⟩ = some (.int .i64 h.height) := Blk.val hh4 4 _ rfl
  rw [H0.out] at c4
  have c3 : w4.cell? ⟨w.heap.size, 3, none⟩ = some (.int .i64 h.root) := Blk.val hh4 3 _ rfl
  have l4 := Blk.lt hh4
  obtain ⟨gb, go, rfl, lq, hcq⟩ := (Hp.out.ext hx4).at 0 (by rw [Hpl.out]; omega)
  have cq := hcq 0 (by rw [Hpl.out]; omega)
  rw [Hp0.out, Nat.add_zero] at cq
  clear hcq
  go_quiet ((go_at_call 17; exact Calls.quiet_of_same (HBa.out _)))
  go_upto_region 6 with (fail)
  refine wp_name (fun w5 => Ext w4 w5) (by first | exact Ext.drewN _ _ | exact Ext.drew _ | exact Ext.refl _) ?_
  intro w5 he5
  have hx5 := hx4.trans he5
  have hh5 := hh4.ext he5
  have hd5 := hd4.ext he5
  have hz5 := he5.blk _ _ hz4
  have ht5 := he5.blk _ _ ht4
  clear hx4 hh4 hd4 hz4 ht4 he5 c4 c3 l4 cq lq
  go_upto_region 9 with (first
    | ((with_reducible (show wpList _ _ _ (⟨some 51, _, _, _, _, _⟩ :: _) _ _)); refine wpList_row (o := ⟨some 51, _, _, _, _, _⟩) rfl 55 (.tmp 15) rfl _ rfl _ _ _ ht5 trDesc rfl trSize ?_)
    | (go_at_call 18; refine (HSt.out _ hx5).mono ?_; rintro e w6 ⟨L6, q6, c6, rfl, he6, ha6, hst6, hc6⟩)
    | (go_at_call 19; refine (HBo.out _).mono ?_; rintro e w7 ⟨rfl, he7⟩))
  have he67 := he6.trans he7
  have HS6 := Lib.hid (And.intro ha6 (And.intro (hst6.ext he7) hc6))
  clear ha6 hst6 hc6
  have hx6 := hx5.trans he67
  have hh6 := hh5.ext he67
  have hd6 := hd5.ext he67
  have hz6 := he67.blk _ _ hz5
  clear hx5 hh5 hd5 hz5 ht5 he6 he7 he67
  go_upto_region 10 with (first
    | ((with_reducible (show wpList _ _ _ (⟨some 63, _, _, _, _, _⟩ :: _) _ _)); refine wpList_hd (o := ⟨some 63, _, _, _, _, _⟩) rfl (.tmp 7) rfl _ rfl h hh6 ?_)
    | ((with_reducible (show wpList _ _ _ (⟨some 64, _, _, _, _, _⟩ :: _) _ _)); refine wpList_ds (o := ⟨some 64, _, _, _, _, _⟩) rfl (.tmp 8) rfl _ rfl d hd6 ?_)
    | ((with_reducible (show wpList _ _ _ (⟨some 65, _, _, _, _, _⟩ :: _) _ _)); refine wpList_bld (o := ⟨some 65, _, _, _, _, _⟩) rfl 65 #[(0, .tmp 63), (1, .tmp 64)] rfl [(0, .agg #[.int .i64 h.applied, .int .i64 h.count, .int .i64 h.fin, .int .i64 h.root, .int .i64 h.height, .int .i64 h.splits, .int .i64 h.areas]), (1, .agg #[.int .i64 d.id, .int .i64 d.org, .int .i64 d.format, .int .i64 d.length, .int .i64 d.block, .int .i64 d.keyAt, .int .i64 d.keyLength, .int .i64 d.interval, .int .i64 d.area, .int .i64 d.freeInterval, .int .i64 d.freeArea, .int .i64 d.base, .int .i64 d.altAt, .int .i64 d.altLength, .bool d.unique, .int .i64 d.cls, .string ⟨d.volume.toArray⟩, .string ⟨d.owner.toArray⟩, .int .i64 d.created, .int .i64 d.expires, .bool d.archived])] rfl _ (wtBuilt h d) ?_))
  refine wp_name (fun w8 => Ext w w8 ∧ StAt w8 q6 L6 ∧ WrS w.heap.size w7.heap.size h d [] w8 ∧ Blk w8 (w.heap.size + 1 + 1) (.cells #[.int .i64 0, .int .i64 0, .int .i64 0, .int .i64 0, .int .i64 0, .int .i64 0, .int .i64 0] 30)) ⟨hx6.trans (Ext.alloc _ _), HS6.out.2.1.ext (Ext.alloc _ _), ⟨none, 0, Blk.new w7 _, World.ownsRow_nil _ _ _ _, hx6.size⟩, (Ext.alloc _ _).blk _ _ hz6⟩ ?_
  clear hh6 hd6 hz6 hx6
  generalize w7.heap.size = wb at *
  have HA6 := Lib.hid (And.intro HS6.out.1 HS6.out.2.2)
  clear HS6
  clear w7
  rintro w7 ⟨hx7, hst7, hs7, hz7⟩
  have Hst7 := Lib.hid hst7
  clear hst7
  have Hx7 := Lib.hid hx7
  have Hs7 := Lib.hid hs7
  have Hz7 := Lib.hid hz7
  clear hx7 hs7 hz7
  go_upto_region 16 with (first
    | (go_at_call 20; refine (HAd.out wb _ L6 q6 c6 HA6.out.1 Hst7.out HA6.out.2 Hs7.out).mono ?_; rintro e w8 ⟨rfl, hs8, ht8⟩)
    | (go_at_call 21; refine (HTw.out wb _ hs8).mono ?_; rintro e w9 ⟨rfl, ⟨L9, hp9, hs9⟩, ht9⟩))
  have hT := ht8.trans ht9
  have hz9 := hT.2 _ _ _ (by decide) (by decide) Hz7.out
  have hx9 := Ext.trans' Hx7.out hT.1
  have HS9 := Lib.hid hs9
  have HP9 := Lib.hid hp9
  clear hp9
  obtain ⟨q9, c9, hb9, _, _⟩ := hs9
  have k0 : w9.cell? ⟨wb, 0, none⟩ = some (.int .i64 h1.applied) := Blk.val hb9 0 _ rfl
  have k1 : w9.cell? ⟨wb, 1, none⟩ = some (.int .i64 h1.count) := Blk.val hb9 1 _ rfl
  have k2 : w9.cell? ⟨wb, 2, none⟩ = some (.int .i64 h1.fin) := Blk.val hb9 2 _ rfl
  have k3 : w9.cell? ⟨wb, 3, none⟩ = some (.int .i64 h1.root) := Blk.val hb9 3 _ rfl
  have k4 : w9.cell? ⟨wb, 4, none⟩ = some (.int .i64 h1.height) := Blk.val hb9 4 _ rfl
  have k5 : w9.cell? ⟨wb, 5, none⟩ = some (.int .i64 h1.splits) := Blk.val hb9 5 _ rfl
  have k6 : w9.cell? ⟨wb, 6, none⟩ = some (.int .i64 h1.areas) := Blk.val hb9 6 _ rfl
  have l9 := Blk.lt hb9
  have hzd := (Ext.drew w9).blk _ _ hz9
  have Hzd := Lib.hid hzd
  have Hx9 := Lib.hid (hx9.trans (Ext.drew w9))
  clear hs8 ht8 ht9 hT hb9 hz9 hzd hx9
  go_region_with (go_at_call 22; refine (HSo.out wb _ L9 HP9.out (by first | exact HS9.out.ext (Ext.drew _) | exact HS9.out)).mono ?_; rintro e w10 ⟨L10, q10, c10, hp10, rfl, ho10, hs10, ht10⟩; obtain ⟨q11, c11, hb10, _, _⟩ := hs10; have j0 : w10.cell? ⟨wb, 0, none⟩ = some (.int .i64 h1.applied) := Blk.val hb10 0 _ rfl; have j1 : w10.cell? ⟨wb, 1, none⟩ = some (.int .i64 h1.count) := Blk.val hb10 1 _ rfl; have j2 : w10.cell? ⟨wb, 2, none⟩ = some (.int .i64 h1.fin) := Blk.val hb10 2 _ rfl; have j3 : w10.cell? ⟨wb, 3, none⟩ = some (.int .i64 h1.root) := Blk.val hb10 3 _ rfl; have j4 : w10.cell? ⟨wb, 4, none⟩ = some (.int .i64 h1.height) := Blk.val hb10 4 _ rfl; have j5 : w10.cell? ⟨wb, 5, none⟩ = some (.int .i64 h1.splits) := Blk.val hb10 5 _ rfl; have j6 : w10.cell? ⟨wb, 6, none⟩ = some (.int .i64 h1.areas) := Blk.val hb10 6 _ rfl; have l10 := Blk.lt hb10; have hz10 := ht10.2 _ _ _ (by decide) (by decide) Hzd.out; have z0 : w10.cell? ⟨w.heap.size + 1 + 1, 0, none⟩ = some (.int .i64 0) := Blk.val hz10 0 _ rfl; have f0 := Blk.free hz10 0; have z1 : w10.cell? ⟨w.heap.size + 1 + 1, 1, none⟩ = some (.int .i64 0) := Blk.val hz10 1 _ rfl; have f1 := Blk.free hz10 1; have z2 : w10.cell? ⟨w.heap.size + 1 + 1, 2, none⟩ = some (.int .i64 0) := Blk.val hz10 2 _ rfl; have f2 := Blk.free hz10 2; have z3 : w10.cell? ⟨w.heap.size + 1 + 1, 3, none⟩ = some (.int .i64 0) := Blk.val hz10 3 _ rfl; have f3 := Blk.free hz10 3; have z4 : w10.cell? ⟨w.heap.size + 1 + 1, 4, none⟩ = some (.int .i64 0) := Blk.val hz10 4 _ rfl; have f4 := Blk.free hz10 4; have z5 : w10.cell? ⟨w.heap.size + 1 + 1, 5, none⟩ = some (.int .i64 0) := Blk.val hz10 5 _ rfl; have f5 := Blk.free hz10 5; have z6 : w10.cell? ⟨w.heap.size + 1 + 1, 6, none⟩ = some (.int .i64 0) := Blk.val hz10 6 _ rfl; have f6 := Blk.free hz10 6; have lz10 := Blk.lt hz10; have Hp10 := Lib.hid hp10; clear hp10; have Hz10 := Lib.hid hz10; have Ho10 := Lib.hid ho10; have Hx10 := Lib.hid (Ext.trans' Hx9.out ht10.1); clear hz10 ho10 ht10 hb10)
  all_goals
    clear z0 z1 z2 z3 z4 z5 z6 f0 f1 f2 f3 f4 f5 f6 j0 j1 j2 j3 j4 j5 j6 k0 k1 k2 k3 k4 k5 k6
    go_wp2_with fail
    refine bodyPost_ret (results_row2 Try.results9 _ _ (w.heap.size + 1 + 1) 30 #[.int .i64 h1.applied, .int .i64 h1.count, .int .i64 h1.fin, .int .i64 h1.root, .int .i64 h1.height, .int .i64 h1.splits, .int .i64 h1.areas] _ rfl ?_ hdDesc rfl hdSize) rfl ?_
    · first
        | exact Blk.setCell (Blk.setCell (Blk.setCell (Blk.setCell (Blk.setCell (Blk.setCell (Blk.setCell Hz10.out))))))
        | exact (Ext.drew _).blk _ _ (Blk.setCell (Blk.setCell (Blk.setCell (Blk.setCell (Blk.setCell (Blk.setCell (Blk.setCell Hz10.out)))))))
        | trace_state
    · refine ⟨?_, L10, q10, c10, Hp10.out, rfl, ?_⟩
      · first
          | exact ((((((Chg.setCell.trans Chg.setCell).trans Chg.setCell).trans Chg.setCell).trans Chg.setCell).trans Chg.setCell).trans Chg.setCell).ext Hx10.out (by omega)
          | exact (((((((Chg.setCell.trans Chg.setCell).trans Chg.setCell).trans Chg.setCell).trans Chg.setCell).trans Chg.setCell).trans Chg.setCell).ext Hx10.out (by omega)).trans (Ext.drew _)
      · first
          | exact own_chgT Ho10.out (by decide) Hz10.out ((((((Chg.setCell.trans Chg.setCell).trans Chg.setCell).trans Chg.setCell).trans Chg.setCell).trans Chg.setCell).trans Chg.setCell)
          | exact own_ext (own_chgT Ho10.out (by decide) Hz10.out ((((((Chg.setCell.trans Chg.setCell).trans Chg.setCell).trans Chg.setCell).trans Chg.setCell).trans Chg.setCell).trans Chg.setCell)) (Ext.drew _)
end Go.Proofs.Ytolmoknjmdmpgaa
