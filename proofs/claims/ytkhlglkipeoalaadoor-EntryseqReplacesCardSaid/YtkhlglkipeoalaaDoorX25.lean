/- The walk of the law EntryseqAppends. -/
import Derived.Test.YtkhlglkipeoalaaDoorX24
import Derived.Test.YtkhlglkipeoalaaDoorX26
import Derived.Test.YtkhlglkipeoalaaDoorPC
set_option linter.unusedSimpArgs false
set_option linter.unusedVariables false
namespace Go.Proofs.YtkhlglkipeoalaaDoor
open Go.RowKit Dsd

/-- One record more, if it can be appended. -/
noncomputable def stepA (d : DS) (s : Hd × Recs) (r : List UInt8) : Hd × Recs := if (appendOf s.2 s.1 d r).e = 0 then ((appendOf s.2 s.1 d r).h, putsP s.2 (appendOf s.2 s.1 d r).w) else s
noncomputable def stA (d : DS) (rs : Recs) : Hd × Recs := rs.foldl (stepA d) (Hd.zero, [[]])
theorem stA_snoc (d : DS) (rs : Recs) (k : Nat) (h : k < rs.length) : stA d (rs.take (k + 1)) = stepA d (stA d (rs.take k)) (rs.getD k []) := by
  unfold stA
  rw [List.take_succ_eq_append_getElem h, List.foldl_append]
  simp [List.getD, h]
/-- What stands of a cluster behind k appends. -/
structure AInv (k : Nat) (s : Hd × Recs) : Prop where
  pos : 0 < s.2.length
  len : s.2.length ≤ k + 1
  mem : ∀ x ∈ s.2, x.length ≤ 512
  fin0 : 0 ≤ s.1.fin
  fin1 : s.1.fin ≤ k
theorem AInv.small {k : Nat} {s : Hd × Recs} (h : AInv k s) (hk : k ≤ 1000) : Small s.2 := ⟨by have := h.len; omega, fun x hx => by have := h.mem x hx; omega⟩
theorem appendOf_ok {m : Recs} {h : Hd} {d : DS} {r : List UInt8} (e : (appendOf m h d r).e = 0) : ∃ L f, (appendOf m h d r).w = [(f, encStr d.interval L)] ∧ (appendOf m h d r).h.fin = f ∧ h.fin ≤ f ∧ f ≤ h.fin + 1 ∧ (appendOf m h d r).h = { h with count := h.count + 1, fin := f } := by
  unfold appendOf at e ⊢
  split at e
  · rename_i h1; exact absurd e h1
  · rename_i h1
    rw [if_neg h1]
    split at e
    · simp [AppRes.err] at e
    · rename_i h2
      rw [if_neg h2]
      split at e
      · rename_i h3; exact absurd e h3
      · rename_i h3
        rw [if_neg h3]
        refine ⟨_, _, rfl, rfl, ?_, ?_, rfl⟩
        · unfold addOf; split <;> simp only <;> omega
        · unfold addOf; split <;> simp only <;> omega
theorem stepA_inv {d : DS} {k : Nat} {s : Hd × Recs} {r : List UInt8} (h : AInv k s) (hk : k ≤ 1000) : AInv (k + 1) (stepA d s r) := by
  unfold stepA
  split
  · rename_i e
    obtain ⟨L, f, hw, hf, hf1, hf2, hh⟩ := appendOf_ok e
    have h0 := h.fin0
    have h1 := h.fin1
    have hp := putP_mem s.2 (f, encStr d.interval L) (fun x => x.length ≤ 512) h.mem (by simp) encStr_le
    have hg := growP_ge s.2 f
    have hl : (putP s.2 (f, encStr d.interval L)).length = (growP s.2 f).length := by unfold putP; split <;> simp
    have hgl : (growP s.2 f).length ≤ k + 2 := by
      have := h.len
      unfold growP
      split
      · simp; omega
      · omega
    rw [hw]
    refine ⟨?_, ?_, hp, ?_, ?_⟩
    · show 0 < (putP s.2 (f, encStr d.interval L)).length
      have := h.pos; omega
    · show (putP s.2 (f, encStr d.interval L)).length ≤ k + 1 + 1
      omega
    · rw [hf]; omega
    · rw [hf]; omega
  · exact ⟨h.pos, by have := h.len; omega, h.mem, h.fin0, by have := h.fin1; omega⟩
theorem stA_inv (d : DS) : ∀ (k : Nat) (rs : Recs), k ≤ 1000 → k ≤ rs.length → AInv k (stA d (rs.take k))
  | 0, rs, _, _ => ⟨by simp [stA], by simp [stA], by simp [stA], by simp [stA, Hd.zero], by simp [stA, Hd.zero]⟩
  | k + 1, rs, h1, h2 => by
    rw [stA_snoc d rs k (by omega)]
    exact stepA_inv (stA_inv d k rs (by omega) (by omega)) (by omega)
theorem short_at {L : Recs} {k n : Nat} (h : shortB L k n = true) : L.length ≤ k ∧ ∀ i, (L.getD i []).length ≤ n := by
  unfold shortB at h
  simp at h
  refine ⟨h.1, fun i => ?_⟩
  by_cases hi : i < L.length
  · simp [List.getD, hi]; exact h.2 _ (List.getElem_mem hi)
  · simp [List.getD, List.getElem?_eq_none (Nat.le_of_not_lt hi)]

theorem own_chgT {w w' : World} {base : Nat} {e t : TypeId} {size : Nat} {v : Value} {n b : Nat} {xs : List Value} {cs : Array Value} (h : w.ownsRow base e size v n xs) (hne : e ≠ t) (hb : Blk w b (.cells cs t)) (c : Chg b w w') : w'.ownsRow base e size v n xs :=
  own_tchg (B := 0) h hne ⟨b, cs, Nat.zero_le _, hb, c⟩
/-- What stands in the law's loop, behind k records: the header's variable, the pages. -/
def AppIn (w : World) (hb : Nat) (d : DS) (s : Hd × Recs) (v : Value) (wr : World) : Prop :=
  Ext w wr ∧ HdAt wr hb s.1 ∧ DsAt wr w.heap.size d ∧ wr.ownsRow w.heap.size 9 1 v s.2.length (s.2.map fun s : List UInt8 => Value.string ⟨s.toArray⟩)

set_option maxRecDepth 100000 in
set_option maxHeartbeats 4000000 in
theorem EntryseqAppends_any (p : Option Addr) (cap n : Nat) (L : Recs) (d : DS) (w : World) (hs : Strs w p L) (hn : L.length = n) (hcap : n ≤ cap) (hcm : cap ≤ maxLen) :
    Calls Tryd.prog 3 #[.agg #[.int .i64 d.id, .int .i64 d.org, .int .i64 d.format, .int .i64 d.length, .int .i64 d.block, .int .i64 d.keyAt, .int .i64 d.keyLength, .int .i64 d.interval, .int .i64 d.area, .int .i64 d.freeInterval, .int .i64 d.freeArea, .int .i64 d.base, .int .i64 d.altAt, .int .i64 d.altLength, .bool d.unique, .int .i64 d.cls, .string ⟨d.volume.toArray⟩, .string ⟨d.owner.toArray⟩, .int .i64 d.created, .int .i64 d.expires, .bool d.archived], .slice p n cap] w fun e w' => e = .returned (.bool true) ∧ Ext w w' := by
  have Hsm := Lib.hid (fun w h => small_any p cap n L w h hn (by have := hcm; omega))
  have Hs := Lib.hid hs
  clear hs
  cases hsh : shortB L 40 300
  · rw [hsh] at Hsm
    go_enter Tryd.func3, Tryd.ntmps3
    go_upto_region 1 with (fail)
    refine wp_name (fun w0 => Ext w w0) (Ext.alloc _ _) ?_
    intro w0 he0
    go_wp2_with (first | (go_at_call 10; refine (awake_any _).mono ?_; rintro e w1 ⟨rfl, he1⟩) | (go_at_call 11; refine (Hsm.out _ (Hs.out.ext (he0.trans he1))).mono ?_; rintro e w2 ⟨rfl, rfl⟩))
    go_ret
    exact ⟨rfl, he0.trans he1⟩
  · obtain ⟨hL, hLs⟩ := short_at hsh
    rw [hsh] at Hsm
    have HLs := Lib.hid hLs
    have Hinv := Lib.hid (fun k h => stA_inv d k L (by omega) h)
    subst hn
    clear hLs hsh
    go_enter Tryd.func3, Tryd.ntmps3
    go_upto_region 1 with (fail)
    refine wp_name (fun w0 => Ext w w0 ∧ DsAt w0 w.heap.size d) ⟨Ext.alloc _ _, Blk.new _ _⟩ ?_
    rintro w0 ⟨he0, hb2⟩
    go_upto_region 6 with (first | (go_at_call 10; refine (awake_any _).mono ?_; rintro e w1 ⟨rfl, he1⟩) | (go_at_call 11; refine (Hsm.out _ (Hs.out.ext (he0.trans he1))).mono ?_; rintro e w2 ⟨rfl, rfl⟩) | (refine wpList_bld (o := ⟨some 21, _, _, _, _, _⟩) rfl 28 #[] rfl [] rfl _ hdBuilt0 ?_) | (refine wpList_put rfl 28 (.tmp 5) (.tmp 21) rfl _ #[.int .i64 0, .int .i64 0, .int .i64 0, .int .i64 0, .int .i64 0, .int .i64 0, .int .i64 0] rfl rfl _ _ (Blk.new1 _ _ _ (by simp)) hdSize rfl (hd_one Hd.zero) ?_; intro w4 hb4 hc4))
    refine wp_name (fun w5 => AppIn w (w1.heap.size + 1) d (Hd.zero, [[]]) (.slice (some ⟨w1.heap.size, 0, none⟩) 1 1) w5 ∧ w1.heap.size + 1 < w5.heap.size) ⟨⟨(he0.trans he1).trans (hc4.ext ((Ext.alloc _ _).trans (Ext.alloc _ _)) (by simp)), hb4, hc4.blk ((Blk.alloc (Blk.alloc (hb2.ext he1) _) _)) (by have := Blk.lt (hb2.ext he1); omega), own_lit1 (hc4.blk (Blk.alloc (Blk.new w1 _) _) (by omega)) (he0.trans he1).size⟩, Blk.lt hb4⟩ ?_
    clear hb2 hb4 hc4
    rintro w5 ⟨hin, hhb⟩
    have hwb : w.heap.size < w1.heap.size + 1 := by have := (he0.trans he1).size; omega
    generalize w1.heap.size + 1 = hb at *
    generalize w1.heap.size = mb at *
    have Hin := Lib.hid hin
    clear hin he0 he1
    go_wp2_with fail
    go_loopw [6, 7] (fun v i wr => ∃ j : Nat, j ≤ L.length ∧ i = .int .i64 j ∧ AppIn w hb d (stA d (L.take j)) v wr) (fun _ i _ => L.length - (intOf i).toNat)
    case atStart => exact ⟨0, Nat.zero_le _, rfl, by simpa [stA] using Hin.out⟩
    case round =>
      obtain ⟨j, hj, rfl, hin⟩ := hrel
      by_cases hlt : j < L.length
      · have hltI : (j : Int) < L.length := by omega
        have hI := Hinv.out j hj
        have HS := Lib.hid (stA_snoc d L j hlt)
        have hrl := HLs.out j
        generalize stA d (L.take j) = s at *
        obtain ⟨H, M⟩ := s
        obtain ⟨hext, hb5, hb2, hrow⟩ := hin
        simp only at hb5 hrow
        have hMs := hI.small (by omega)
        have hMp := hI.pos
        have hMl := hI.len
        simp only at hMs hMp hMl
        obtain ⟨qm, cm, rfl, hsq, _, _, _⟩ := own_strs_p hrow
        obtain ⟨ad, rfl⟩ := Option.isSome_iff_exists.1 (own_nonil hrow hMp)
        obtain ⟨b, off, rfl, hbb, hc⟩ := (Hs.out.ext hext).at j hlt
        have hck := hc j hlt
        generalize L.getD j [] = r at *
        have HA1 := Lib.hid (fun w' (e : Ext wr w') => (Append_any (some ad) M.length cm M H d r w' (hsq.ext e) rfl hMs (by omega)).mono (fun e w'' a => appOut_F a))
        have HA2 := Lib.hid (fun w' (e : Ext wr w') => (Append_ref (some ad) M.length cm M H d r w' (hsq.ext e) rfl hMs (by omega)).mono (fun e w'' a => appOut_F a))
        have HPu := Lib.hid (fun w' (e : Ext wr w') q c WA (hw : Wrts w' q WA) (hl : WA.length ≤ 100) => (Put_any ad q M.length cm WA.length c M WA w' (hsq.ext e) rfl hw rfl (by omega) hl).mono (show ∀ (e : Ending) (w'' : World), (Ext w' w'' ∧ ∃ v, e = .returned v ∧ w''.ownsRow w'.heap.size 9 1 v (putsP M WA).length ((putsP M WA).map fun s => .string ⟨s.toArray⟩)) → (∃ v, e = .returned v ∧ Ext w' w'' ∧ RowsF 9 w.heap.size 1 (putsP M WA).length ((putsP M WA).map fun s => .string ⟨s.toArray⟩) v w'') from fun e' w'' ⟨h1, v, h2, h3⟩ => ⟨v, h2, h1, by obtain ⟨q2, c2, rfl⟩ := own_slice h3; exact ⟨q2, c2, rfl, own_le h3 (hext.trans e).size⟩⟩))
        have HSt : Hid (stepA d (H, M) r = if (appendOf M H d r).e = 0 then ((appendOf M H d r).h, putsP M (appendOf M H d r).w) else (H, M)) := Lib.hid rfl
        have HW1 : Hid ((appendOf M H d r).e = 0 → (appendOf M H d r).w.length ≤ 100) := Lib.hid (fun e => by obtain ⟨_, _, hw, _⟩ := appendOf_ok e; rw [hw]; simp)
        have hfew := append_few M H d r
        generalize appendOf M H d r = R at *
        obtain ⟨G, WA, AT, EA⟩ := R
        simp only at HSt HW1 hfew
        have Hb5 := Lib.hid hb5
        have Hb2 := Lib.hid hb2
        have Hb50 := Lib.hid hb5
        have Hb20 := Lib.hid hb2
        have Hrow := Lib.hid hrow
        have Hext := Lib.hid hext
        have hhb2 : hb < wr.heap.size := Blk.lt hb5
        clear hc hI hMs hMp hMl hsq hb5 hb2 hrow hext
        go_upto_region 9 with (fail)
        refine wp_region_pk 200 [(15, [(14, 8)])] (Ext.refl wr) (by kernel_rfl) (by kernel_rfl) (by kernel_rfl) (by kernel_rfl) (by kernel_rfl) (by kernel_rfl) (gok_one _ _ 15 14 8 (TChg wr.heap.size 28) (PtrF wr.heap.size (.cells #[.int .i64 G.applied, .int .i64 G.count, .int .i64 G.fin, .int .i64 G.root, .int .i64 G.height, .int .i64 G.splits, .int .i64 G.areas] 28)) (fun _ _ h => h.below) (PtrF.stable _ _) (by kernel_rfl)) ?_
        simp only [List.take_succ_cons, List.take_zero, List.take_nil, List.drop_succ_cons, List.drop_zero, List.drop_nil, List.map_cons, List.map_nil]
        repeat (first
          | (refine wpPL_step (o := ⟨some 8, _, _, _, _, _⟩) (PtrF wr.heap.size (.cells #[.int .i64 0, .int .i64 0, .int .i64 0, .int .i64 0, .int .i64 0, .int .i64 0, .int .i64 0] 28)) (PtrF.stable _ _) (by first | exact .inr (AppF.strong _ _ _ _ (by decide)) | exact .inr (WrF.strong _ _ _ _ (by decide)) | exact .inr (RowsF.strong _ _ _ _ _ _ _ _ (by decide)) | exact .inr (Fresh.strong _ _ _ _ _ _ _ (by decide)) | exact .inr (IfcF.strong (Fresh.strong _ _ _ _ _ _ _ (by decide)) _) | exact .inl (by kernel_rfl)) (by kernel_rfl) (by first | exact .inl rfl | exact .inr ⟨_, _, _, rfl, rfl, rfl⟩) ?_ ?_
             · intro a w' he hr K hK
               go_simp
               exact hK _ _ (Ext.alloc _ _) ⟨_, rfl, Blk.new _ _, he.size⟩
             simp only [setL, List.set_cons_succ, List.set_cons_zero])
          | (refine wpPL_det (o := ⟨some 32, _, _, _, _, _⟩) (v := .agg #[.int .i64 H.applied, .int .i64 H.count, .int .i64 H.fin, .int .i64 H.root, .int .i64 H.height, .int .i64 H.splits, .int .i64 H.areas]) (by kernel_rfl) (by first | exact .inl rfl | exact .inr ⟨_, _, _, rfl, rfl, rfl⟩) ?_ ?_
             · intro a w' he hr K hK
               simp [Reads, Oper.looksAt, Op.operands, factAt, Is] at hr
               exact wp_load_row 28 (.tmp 5) rfl (hb) (by go_simp) _ _ _ _ (he.blk _ _ Hb5.out) hdDesc rfl hdSize (hK _ (Ext.refl _))
             simp only [setL, List.set_cons_succ, List.set_cons_zero])
          | (refine wpPL_det (o := ⟨some 33, _, _, _, _, _⟩) (v := .agg #[.int .i64 d.id, .int .i64 d.org, .int .i64 d.format, .int .i64 d.length, .int .i64 d.block, .int .i64 d.keyAt, .int .i64 d.keyLength, .int .i64 d.interval, .int .i64 d.area, .int .i64 d.freeInterval, .int .i64 d.freeArea, .int .i64 d.base, .int .i64 d.altAt, .int .i64 d.altLength, .bool d.unique, .int .i64 d.cls, .string ⟨d.volume.toArray⟩, .string ⟨d.owner.toArray⟩, .int .i64 d.created, .int .i64 d.expires, .bool d.archived]) (by kernel_rfl) (by first | exact .inl rfl | exact .inr ⟨_, _, _, rfl, rfl, rfl⟩) ?_ ?_
             · intro a w' he hr K hK
               simp [Reads, Oper.looksAt, Op.operands, factAt, Is] at hr
               exact wp_load_row 23 (.tmp 2) rfl (w.heap.size) (by go_simp) _ _ _ _ (he.blk _ _ Hb2.out) dsDesc rfl dsSize (hK _ (Ext.refl _))
             simp only [setL, List.set_cons_succ, List.set_cons_zero])
          | (refine wpPL_step (o := ⟨some 38, _, _, _, _, _⟩) (AppF ⟨G, WA, AT, EA⟩) (AppF.stable _) (by first | exact .inr (AppF.strong _ _ _ _ (by decide)) | exact .inr (WrF.strong _ _ _ _ (by decide)) | exact .inr (RowsF.strong _ _ _ _ _ _ _ _ (by decide)) | exact .inr (Fresh.strong _ _ _ _ _ _ _ (by decide)) | exact .inr (IfcF.strong (Fresh.strong _ _ _ _ _ _ _ (by decide)) _) | exact .inl (by kernel_rfl)) (by kernel_rfl) (by first | exact .inl rfl | exact .inr ⟨_, _, _, rfl, rfl, rfl⟩) ?_ ?_
             · intro a w' he hr K hK
               simp [Reads, Oper.looksAt, Op.operands, Call.operands, factAt, Is] at hr
               go_simp
               refine ((HA1.out w' he)).mono ?_
               rintro e w'' ⟨v, rfl, he', hf⟩
               exact hK _ _ he' hf
             simp only [setL, List.set_cons_succ, List.set_cons_zero])
          | (refine wpPL_det (o := ⟨some 39, _, _, _, _, _⟩) (v := .agg #[.int .i64 G.applied, .int .i64 G.count, .int .i64 G.fin, .int .i64 G.root, .int .i64 G.height, .int .i64 G.splits, .int .i64 G.areas]) (by kernel_rfl) (by first | exact .inl rfl | exact .inr ⟨_, _, _, rfl, rfl, rfl⟩) ?_ ?_
             · intro a w' he hr K hK
               obtain ⟨q1, k1, c1, h1, h2, h3⟩ := hr 29 (by simp [Oper.looksAt, Op.operands])
               simp at h1
               go_simp
               exact hK _ (Ext.refl _)
             simp only [setL, List.set_cons_succ, List.set_cons_zero])
          | (refine wpPL_det (o := ⟨some 41, _, _, _, _, _⟩) (v := .int .i64 AT) (by kernel_rfl) (by first | exact .inl rfl | exact .inr ⟨_, _, _, rfl, rfl, rfl⟩) ?_ ?_
             · intro a w' he hr K hK
               obtain ⟨q1, k1, c1, h1, h2, h3⟩ := hr 29 (by simp [Oper.looksAt, Op.operands])
               simp at h1
               go_simp
               exact hK _ (Ext.refl _)
             simp only [setL, List.set_cons_succ, List.set_cons_zero])
          | (refine wpPL_det (o := ⟨some 42, _, _, _, _, _⟩) (v := .int .i64 EA) (by kernel_rfl) (by first | exact .inl rfl | exact .inr ⟨_, _, _, rfl, rfl, rfl⟩) ?_ ?_
             · intro a w' he hr K hK
               obtain ⟨q1, k1, c1, h1, h2, h3⟩ := hr 29 (by simp [Oper.looksAt, Op.operands])
               simp at h1
               go_simp
               exact hK _ (Ext.refl _)
             simp only [setL, List.set_cons_succ, List.set_cons_zero])
          | (refine wpPL_step (o := ⟨some 40, _, _, _, _, _⟩) (WrF WA) (WrF.stable _) (by first | exact .inr (AppF.strong _ _ _ _ (by decide)) | exact .inr (WrF.strong _ _ _ _ (by decide)) | exact .inr (RowsF.strong _ _ _ _ _ _ _ _ (by decide)) | exact .inr (Fresh.strong _ _ _ _ _ _ _ (by decide)) | exact .inr (IfcF.strong (Fresh.strong _ _ _ _ _ _ _ (by decide)) _) | exact .inl (by kernel_rfl)) (by kernel_rfl) (by first | exact .inl rfl | exact .inr ⟨_, _, _, rfl, rfl, rfl⟩) ?_ ?_
             · intro a w' he hr K hK
               obtain ⟨q1, k1, c1, h1, rfl, h3⟩ := hr 29 (by simp [Oper.looksAt, Op.operands])
               simp at h1
               go_simp
               exact hK _ _ (Ext.refl _) ⟨q1, c1, rfl, h3⟩
             simp only [setL, List.set_cons_succ, List.set_cons_zero])
          | (refine wpPL_pivot (o := ⟨none, _, _, _, _, _⟩) Any Any.stable (.inr Any.strong) (by kernel_rfl) (by first | exact .inl rfl | exact .inr ⟨_, _, _, rfl, rfl, rfl⟩) ?_ ?_
             · intro a w' he hr K hK
               obtain ⟨b, h1, h2, h3⟩ := hr 8 (by simp [Oper.looksAt, Op.operands])
               have hv := hr 39 (by simp [Oper.looksAt, Op.operands])
               refine wp_store_row 28 (.tmp 8) (.tmp 39) rfl b #[.int .i64 G.applied, .int .i64 G.count, .int .i64 G.fin, .int .i64 G.root, .int .i64 G.height, .int .i64 G.splits, .int .i64 G.areas] h1 hv _ _ h2 hdSize rfl (hd_one G) ?_
               exact hK _ _ ⟨b, _, h3, h2, Chg.setRow⟩ trivial (fun x hx _ y hy => by simp at hx; subst hx; simp at hy; subst hy; exact ⟨b, h1, Blk.setRow h2, h3⟩)
             simp only [setL, List.set_cons_succ, List.set_cons_zero])
          | (refine wpPL_move _ _ (by kernel_rfl) (by first | exact .inl rfl | exact .inr ⟨_, _, _, rfl, rfl, rfl⟩) (by first | exact .inl rfl | exact .inr rfl) rfl (by first | exact Is.stable _ | exact RowsF.stable _ _ _ _ _ | exact NoneF.stable _ _ | exact Fresh.stable _ _ _ | exact AppF.stable _ | exact WrF.stable _ | exact PtrF.stable _ _ | exact PlF.stable _ _) (by first | exact .inr (Is.strong _ _ _) | exact .inr (AppF.strong _ _ _ _ (by decide)) | exact .inr (WrF.strong _ _ _ _ (by decide)) | exact .inr (RowsF.strong _ _ _ _ _ _ _ _ (by decide)) | exact .inl (by kernel_rfl)) ?_
             simp only [setL, List.set_cons_succ, List.set_cons_zero, List.getD_cons_succ, List.getD_cons_zero])
          | (apply wpPL_det (by kernel_rfl) (by first | exact .inl rfl | exact .inr ⟨_, _, _, rfl, rfl, rfl⟩)
             · intro a w' he hr K hK
               simp [Reads, Oper.looksAt, Op.operands, Call.operands, factAt, Is] at hr
               have hx := he.cell
               go_simp
               try go_bits
               try (rw [if_neg (by omega)]; go_simp)
               first
                 | exact hK _ (Ext.refl _)
             simp only [setL, List.set_cons_succ, List.set_cons_zero]))
        intro w2 he2
        simp only [killL, killIn, List.foldl_cons, List.foldl_nil, List.set_cons_succ, List.set_cons_zero]
        repeat (first | with_reducible refine rest_is _ _ _ _ ?_ | (with_reducible refine rest_fact _ _ _ _ ?_; intro _ _) | with_reducible refine rest_end _ _ ?_)
        simp only [List.reverse_cons, List.reverse_nil, List.nil_append, List.cons_append]
        rename_i x8 h8 x9 h9 x29 h29 x38 h38 x40 h40
        obtain ⟨b8, rfl, hb8, hB8⟩ := h8
        obtain ⟨q9, c9, rfl, hw9⟩ := h9
        clear h29 h38 h40
        obtain ⟨wa, rfl⟩ : ∃ wa : World, wa = w2 := ⟨_, rfl⟩
        have hea := he2
        have hb5 := Hb5.out.ext hea
        have hb2 := Hb2.out.ext hea
        have hcka := (hea.cell b _ hbb).trans hck
        have hbba : b < wa.heap.size := Nat.lt_of_lt_of_le hbb hea.size
        have Hb5 := Lib.hid hb5
        have Hb2 := Lib.hid hb2
        have hhb3 : hb < wa.heap.size := Blk.lt hb5
        have Hb8 := Lib.hid hb8
        have Hw9 := Lib.hid hw9
        clear he2 hck hbb hb5 hb2 hb8 hw9
        go_upto_region 10 with (fail)
        refine wp_region_pk 200 [(14, [(13, 12)])] (Ext.refl wa) (by kernel_rfl) (by kernel_rfl) (by kernel_rfl) (by kernel_rfl) (by kernel_rfl) (by kernel_rfl) (gok_one _ _ 14 13 12 (TChg wa.heap.size 28) (PtrF wa.heap.size (.cells #[.int .i64 G.applied, .int .i64 G.count, .int .i64 G.fin, .int .i64 G.root, .int .i64 G.height, .int .i64 G.splits, .int .i64 G.areas] 28)) (fun _ _ h => h.below) (PtrF.stable _ _) (by kernel_rfl)) ?_
        simp only [List.take_succ_cons, List.take_zero, List.take_nil, List.drop_succ_cons, List.drop_zero, List.drop_nil, List.map_cons, List.map_nil]
        repeat (first
          | (refine wpPL_step (o := ⟨some 12, _, _, _, _, _⟩) (PtrF wa.heap.size (.cells #[.int .i64 0, .int .i64 0, .int .i64 0, .int .i64 0, .int .i64 0, .int .i64 0, .int .i64 0] 28)) (PtrF.stable _ _) (by first | exact .inr (AppF.strong _ _ _ _ (by decide)) | exact .inr (WrF.strong _ _ _ _ (by decide)) | exact .inr (RowsF.strong _ _ _ _ _ _ _ _ (by decide)) | exact .inr (Fresh.strong _ _ _ _ _ _ _ (by decide)) | exact .inr (IfcF.strong (Fresh.strong _ _ _ _ _ _ _ (by decide)) _) | exact .inl (by kernel_rfl)) (by kernel_rfl) (by first | exact .inl rfl | exact .inr ⟨_, _, _, rfl, rfl, rfl⟩) ?_ ?_
             · intro a w' he hr K hK
               go_simp
               exact hK _ _ (Ext.alloc _ _) ⟨_, rfl, Blk.new _ _, he.size⟩
             simp only [setL, List.set_cons_succ, List.set_cons_zero])
          | (refine wpPL_det (o := ⟨some 45, _, _, _, _, _⟩) (v := .agg #[.int .i64 H.applied, .int .i64 H.count, .int .i64 H.fin, .int .i64 H.root, .int .i64 H.height, .int .i64 H.splits, .int .i64 H.areas]) (by kernel_rfl) (by first | exact .inl rfl | exact .inr ⟨_, _, _, rfl, rfl, rfl⟩) ?_ ?_
             · intro a w' he hr K hK
               simp [Reads, Oper.looksAt, Op.operands, factAt, Is] at hr
               exact wp_load_row 28 (.tmp 5) rfl (hb) (by go_simp) _ _ _ _ (he.blk _ _ Hb5.out) hdDesc rfl hdSize (hK _ (Ext.refl _))
             simp only [setL, List.set_cons_succ, List.set_cons_zero])
          | (refine wpPL_det (o := ⟨some 46, _, _, _, _, _⟩) (v := .agg #[.int .i64 d.id, .int .i64 d.org, .int .i64 d.format, .int .i64 d.length, .int .i64 d.block, .int .i64 d.keyAt, .int .i64 d.keyLength, .int .i64 d.interval, .int .i64 d.area, .int .i64 d.freeInterval, .int .i64 d.freeArea, .int .i64 d.base, .int .i64 d.altAt, .int .i64 d.altLength, .bool d.unique, .int .i64 d.cls, .string ⟨d.volume.toArray⟩, .string ⟨d.owner.toArray⟩, .int .i64 d.created, .int .i64 d.expires, .bool d.archived]) (by kernel_rfl) (by first | exact .inl rfl | exact .inr ⟨_, _, _, rfl, rfl, rfl⟩) ?_ ?_
             · intro a w' he hr K hK
               simp [Reads, Oper.looksAt, Op.operands, factAt, Is] at hr
               exact wp_load_row 23 (.tmp 2) rfl (w.heap.size) (by go_simp) _ _ _ _ (he.blk _ _ Hb2.out) dsDesc rfl dsSize (hK _ (Ext.refl _))
             simp only [setL, List.set_cons_succ, List.set_cons_zero])
          | (refine wpPL_step (o := ⟨some 51, _, _, _, _, _⟩) (AppF ⟨G, WA, AT, EA⟩) (AppF.stable _) (by first | exact .inr (AppF.strong _ _ _ _ (by decide)) | exact .inr (WrF.strong _ _ _ _ (by decide)) | exact .inr (RowsF.strong _ _ _ _ _ _ _ _ (by decide)) | exact .inr (Fresh.strong _ _ _ _ _ _ _ (by decide)) | exact .inr (IfcF.strong (Fresh.strong _ _ _ _ _ _ _ (by decide)) _) | exact .inl (by kernel_rfl)) (by kernel_rfl) (by first | exact .inl rfl | exact .inr ⟨_, _, _, rfl, rfl, rfl⟩) ?_ ?_
             · intro a w' he hr K hK
               simp [Reads, Oper.looksAt, Op.operands, Call.operands, factAt, Is] at hr
               go_simp
               refine ((HA2.out w' (hea.trans he))).mono ?_
               rintro e w'' ⟨v, rfl, he', hf⟩
               exact hK _ _ he' hf
             simp only [setL, List.set_cons_succ, List.set_cons_zero])
          | (refine wpPL_det (o := ⟨some 52, _, _, _, _, _⟩) (v := .agg #[.int .i64 G.applied, .int .i64 G.count, .int .i64 G.fin, .int .i64 G.root, .int .i64 G.height, .int .i64 G.splits, .int .i64 G.areas]) (by kernel_rfl) (by first | exact .inl rfl | exact .inr ⟨_, _, _, rfl, rfl, rfl⟩) ?_ ?_
             · intro a w' he hr K hK
               obtain ⟨q1, k1, c1, h1, h2, h3⟩ := hr 43 (by simp [Oper.looksAt, Op.operands])
               simp at h1
               go_simp
               exact hK _ (Ext.refl _)
             simp only [setL, List.set_cons_succ, List.set_cons_zero])
          | (refine wpPL_det (o := ⟨some 54, _, _, _, _, _⟩) (v := .int .i64 AT) (by kernel_rfl) (by first | exact .inl rfl | exact .inr ⟨_, _, _, rfl, rfl, rfl⟩) ?_ ?_
             · intro a w' he hr K hK
               obtain ⟨q1, k1, c1, h1, h2, h3⟩ := hr 43 (by simp [Oper.looksAt, Op.operands])
               simp at h1
               go_simp
               exact hK _ (Ext.refl _)
             simp only [setL, List.set_cons_succ, List.set_cons_zero])
          | (refine wpPL_det (o := ⟨some 55, _, _, _, _, _⟩) (v := .int .i64 EA) (by kernel_rfl) (by first | exact .inl rfl | exact .inr ⟨_, _, _, rfl, rfl, rfl⟩) ?_ ?_
             · intro a w' he hr K hK
               obtain ⟨q1, k1, c1, h1, h2, h3⟩ := hr 43 (by simp [Oper.looksAt, Op.operands])
               simp at h1
               go_simp
               exact hK _ (Ext.refl _)
             simp only [setL, List.set_cons_succ, List.set_cons_zero])
          | (refine wpPL_step (o := ⟨some 53, _, _, _, _, _⟩) (WrF WA) (WrF.stable _) (by first | exact .inr (AppF.strong _ _ _ _ (by decide)) | exact .inr (WrF.strong _ _ _ _ (by decide)) | exact .inr (RowsF.strong _ _ _ _ _ _ _ _ (by decide)) | exact .inr (Fresh.strong _ _ _ _ _ _ _ (by decide)) | exact .inr (IfcF.strong (Fresh.strong _ _ _ _ _ _ _ (by decide)) _) | exact .inl (by kernel_rfl)) (by kernel_rfl) (by first | exact .inl rfl | exact .inr ⟨_, _, _, rfl, rfl, rfl⟩) ?_ ?_
             · intro a w' he hr K hK
               obtain ⟨q1, k1, c1, h1, rfl, h3⟩ := hr 43 (by simp [Oper.looksAt, Op.operands])
               simp at h1
               go_simp
               exact hK _ _ (Ext.refl _) ⟨q1, c1, rfl, h3⟩
             simp only [setL, List.set_cons_succ, List.set_cons_zero])
          | (refine wpPL_pivot (o := ⟨none, _, _, _, _, _⟩) Any Any.stable (.inr Any.strong) (by kernel_rfl) (by first | exact .inl rfl | exact .inr ⟨_, _, _, rfl, rfl, rfl⟩) ?_ ?_
             · intro a w' he hr K hK
               obtain ⟨b, h1, h2, h3⟩ := hr 12 (by simp [Oper.looksAt, Op.operands])
               have hv := hr 52 (by simp [Oper.looksAt, Op.operands])
               refine wp_store_row 28 (.tmp 12) (.tmp 52) rfl b #[.int .i64 G.applied, .int .i64 G.count, .int .i64 G.fin, .int .i64 G.root, .int .i64 G.height, .int .i64 G.splits, .int .i64 G.areas] h1 hv _ _ h2 hdSize rfl (hd_one G) ?_
               exact hK _ _ ⟨b, _, h3, h2, Chg.setRow⟩ trivial (fun x hx _ y hy => by simp at hx; subst hx; simp at hy; subst hy; exact ⟨b, h1, Blk.setRow h2, h3⟩)
             simp only [setL, List.set_cons_succ, List.set_cons_zero])
          | (refine wpPL_move _ _ (by kernel_rfl) (by first | exact .inl rfl | exact .inr ⟨_, _, _, rfl, rfl, rfl⟩) (by first | exact .inl rfl | exact .inr rfl) rfl (by first | exact Is.stable _ | exact RowsF.stable _ _ _ _ _ | exact NoneF.stable _ _ | exact Fresh.stable _ _ _ | exact AppF.stable _ | exact WrF.stable _ | exact PtrF.stable _ _ | exact PlF.stable _ _) (by first | exact .inr (Is.strong _ _ _) | exact .inr (AppF.strong _ _ _ _ (by decide)) | exact .inr (WrF.strong _ _ _ _ (by decide)) | exact .inr (RowsF.strong _ _ _ _ _ _ _ _ (by decide)) | exact .inl (by kernel_rfl)) ?_
             simp only [setL, List.set_cons_succ, List.set_cons_zero, List.getD_cons_succ, List.getD_cons_zero])
          | (apply wpPL_det (by kernel_rfl) (by first | exact .inl rfl | exact .inr ⟨_, _, _, rfl, rfl, rfl⟩)
             · intro a w' he hr K hK
               simp [Reads, Oper.looksAt, Op.operands, Call.operands, factAt, Is] at hr
               have hx := he.cell
               go_simp
               try go_bits
               try (rw [if_neg (by omega)]; go_simp)
               first
                 | exact hK _ (Ext.refl _)
             simp only [setL, List.set_cons_succ, List.set_cons_zero]))
        intro w2 he2
        simp only [killL, killIn, List.foldl_cons, List.foldl_nil, List.set_cons_succ, List.set_cons_zero]
        repeat (first | with_reducible refine rest_is _ _ _ _ ?_ | (with_reducible refine rest_fact _ _ _ _ ?_; intro _ _) | with_reducible refine rest_end _ _ ?_)
        simp only [List.reverse_cons, List.reverse_nil, List.nil_append, List.cons_append]
        rename_i x12 h12 x13 h13 x43 h43 x51 h51 x53 h53
        obtain ⟨b12, rfl, hb12, hB12⟩ := h12
        obtain ⟨q13, c13, rfl, hw13⟩ := h13
        clear h43 h51 h53
        have hE : ∀ W, (Op.equalIn 10000 28 (.agg #[.int .i64 G.applied, .int .i64 G.count, .int .i64 G.fin, .int .i64 G.root, .int .i64 G.height, .int .i64 G.splits, .int .i64 G.areas]) (.agg #[.int .i64 G.applied, .int .i64 G.count, .int .i64 G.fin, .int .i64 G.root, .int .i64 G.height, .int .i64 G.splits, .int .i64 G.areas])).run Tryd.prog W = .ok true W := fun W => by rw [hd_equal]; simp
        have hGd := hdGuard
        have hb8 : HdAt w2 b8 G := he2.blk _ _ Hb8.out
        have hb12 : HdAt w2 b12 G := hb12
        have HC := Lib.hid (sameW_same q9 q13 c9 _ c13 _ WA w2 (Hw9.out.ext he2) hw13 rfl rfl hfew)
        have HE2 := Lib.hid (hea.trans he2)
        have Hb12 := Lib.hid hb12
        have Hw13 := Lib.hid hw13
        clear he2 hw13 hcka hea
        by_cases hEA : EA = 0
        · subst hEA
          go_upto_region 14 with (first | (refine wpList_hd (o := ⟨some 56, _, _, _, _, _⟩) rfl (.tmp 8) rfl _ rfl G hb8 ?_) | (refine wpList_hd (o := ⟨some 57, _, _, _, _, _⟩) rfl (.tmp 12) rfl _ rfl G hb12 ?_) | (go_at_call 14; refine HC.out.mono ?_; rintro e w3 ⟨rfl, he3⟩))
          have HN : Hid (stepA d (H, M) r = (G, putsP M WA)) := Lib.hid (by rw [HSt.out]; simp)
          have hl1 := HW1.out (by first | rfl | trivial)
          have HE3 := Lib.hid (HE2.out.trans he3)
          have Hb12x := Lib.hid ((show Blk w3 b12 (.cells #[.int .i64 G.applied, .int .i64 G.count, .int .i64 G.fin, .int .i64 G.root, .int .i64 G.height, .int .i64 G.splits, .int .i64 G.areas] 28) from he3.blk _ _ Hb12.out))
          have Hw13x := Lib.hid (Hw13.out.ext he3)
          have hz12 := Blk.lt Hb12x.out
          clear he3 hb8 hb12
          refine wp_region_mk 4 (Ext.refl w3) (by kernel_rfl) (by kernel_rfl) (by kernel_rfl) ?_
          simp only [List.take_succ_cons, List.take_zero, List.take_nil, List.drop_succ_cons, List.drop_zero, List.drop_nil, List.map_cons, List.map_nil]
          repeat (first
            | (refine wpML_det (o := ⟨some 77, _, _, _, _, _⟩) (v := .agg #[.int .i64 G.applied, .int .i64 G.count, .int .i64 G.fin, .int .i64 G.root, .int .i64 G.height, .int .i64 G.splits, .int .i64 G.areas]) rfl ?_ ?_
               · intro a w' he hr K hK
                 simp [Reads, Oper.looksAt, Op.operands, factAt, Is] at hr
                 exact wp_load_row 28 (.tmp 12) rfl (b12) (by go_simp) _ _ _ _ (he.blk _ _ Hb12x.out) hdDesc rfl hdSize (hK _ (Ext.refl _))
               simp only [setL, List.set_cons_succ, List.set_cons_zero])
            | (refine wpML_move _ _ rfl (by first | exact .inl rfl | exact .inr rfl) rfl (by first | exact Is.stable _ | exact AppF.stable _ | exact WrF.stable _ | exact PtrF.stable _ _ | exact IfcF.stable (Fresh.stable _ _ _) _ | exact PairF.stable (RowF.stable _ _ _ _) _ | exact RowF.stable _ _ _ _ | exact Fresh.stable _ _ _) ?_
               simp only [setL, List.set_cons_succ, List.set_cons_zero, List.getD_cons_succ, List.getD_cons_zero])
            | (refine wpML_moveC _ rfl (by first | exact .inl rfl | exact .inr rfl) ?_
               simp only [setL, List.set_cons_succ, List.set_cons_zero])
            | (apply wpML_det rfl
               · intro a w' he hr K hK
                 simp [Reads, Oper.looksAt, Op.operands, Call.operands, factAt, Is] at hr
                 have hx := he.cell
                 go_simp
                 try go_bits
                 try (rw [if_neg (by omega)]; go_simp)
                 first
                   | exact hK _ (Ext.refl _)
               simp only [setL, List.set_cons_succ, List.set_cons_zero])
            | (refine wpML_fact (o := ⟨some 80, _, _, _, _, _⟩) (RowsF 9 w.heap.size 1 (putsP M WA).length ((putsP M WA).map fun s => .string ⟨s.toArray⟩)) (RowsF.stable _ _ _ _ _) rfl ?_ ?_
               · intro a w' he hr K hK
                 simp [Reads, Oper.looksAt, Op.operands, Call.operands, factAt, Is] at hr
                 go_simp
                 refine ((HPu.out w' (HE3.out.trans he) q13 c13 WA (Hw13x.out.ext he) hl1)).mono ?_
                 rintro e w'' ⟨v, rfl, he', hf⟩
                 exact hK _ _ he' hf
               simp only [setL, List.set_cons_succ, List.set_cons_zero])
            | (apply wpML_det rfl
               · intro a w' he hr K hK
                 simp [Reads, Oper.looksAt, Op.operands, Call.operands, factAt, Fresh] at hr
                 obtain ⟨b, hr1, hr2⟩ := hr
                 go_simp
                 exact hK _ (Ext.refl _)
               simp only [setL, List.set_cons_succ, List.set_cons_zero]))
          intro w2 he2
          repeat (first | with_reducible refine rest_is _ _ _ _ ?_ | (with_reducible refine rest_fact _ _ _ _ ?_; intro _ _) | with_reducible refine rest_end _ _ ?_)
          simp only [List.reverse_cons, List.reverse_nil, List.nil_append, List.cons_append]
          rename_i x80 h80
          obtain ⟨q8, c8, rfl, hown8⟩ := h80
          have hE2 := HE3.out.trans he2
          have hb9 : HdAt w2 hb H := Hb50.out.ext hE2
          have Hown8 := Lib.hid hown8
          have HE9 := Lib.hid hE2
          clear hown8 hE2 he2
          go_wp2_with (first | (refine wpList_put (o := ⟨none, _, _, _, _, _⟩) rfl 28 (.tmp 5) (.tmp 77) rfl _ #[.int .i64 G.applied, .int .i64 G.count, .int .i64 G.fin, .int .i64 G.root, .int .i64 G.height, .int .i64 G.splits, .int .i64 G.areas] rfl rfl _ _ hb9 hdSize rfl (hd_one G) ?_; intro w6 hb6 hc6))
          go_roundw
          case rel => exact ⟨j + 1, by omega, by go_num, by rw [HS.out, HN.out]; exact ⟨hc6.ext (Hext.out.trans HE9.out) (by omega), hb6, hc6.blk (Hb20.out.ext HE9.out) (by omega), own_chgT Hown8.out (by decide) hb9 hc6⟩⟩
          case measure => simp [intOf]; omega
        · have hEI : (EA == 0) = false := by simpa using hEA
          have HN : Hid (stepA d (H, M) r = (H, M)) := Lib.hid (by rw [HSt.out, if_neg hEA])
          clear hEA
          go_wp2_with (first | (refine wpList_hd (o := ⟨some 56, _, _, _, _, _⟩) rfl (.tmp 8) rfl _ rfl G hb8 ?_) | (refine wpList_hd (o := ⟨some 57, _, _, _, _, _⟩) rfl (.tmp 12) rfl _ rfl G hb12 ?_) | (go_at_call 14; refine HC.out.mono ?_; rintro e w3 ⟨rfl, he3⟩))
          go_roundw
          case rel => exact ⟨j + 1, by omega, by go_num, by rw [HS.out, HN.out]; exact ⟨Hext.out.trans (HE2.out.trans he3), Hb50.out.ext (HE2.out.trans he3), Hb20.out.ext (HE2.out.trans he3), own_ext Hrow.out (HE2.out.trans he3)⟩⟩
          case measure => simp [intOf]; omega
      · have hltI : decide ((j : Int) < L.length) = false := decide_eq_false (by omega)
        go_wp2_with fail
        go_ret
        exact ⟨rfl, hin.1⟩
end Go.Proofs.YtkhlglkipeoalaaDoor
