/- The walk of Decode's closure, which takes records out of the data. -/
import Derived.Test.YtkhlglkipeoalaaDoorW10
import Derived.Test.YtkhlglkipeoalaaDoorPA
import Derived.Lib.Builder
set_option linter.unusedSimpArgs false
set_option linter.unusedVariables false
namespace Go.Proofs.YtkhlglkipeoalaaDoor
open Go.RowKit Dsd

theorem infoStrW : (Tryd.prog.info? 9).map (fun i => (i.zero, i.size, i.bytes)) = some (some (.string ByteArray.empty), 1, 16) := by kernel_rfl
theorem own_ext {w w' : World} {base : Nat} {e : TypeId} {size : Nat} {v : Value} {n : Nat} {xs : List Value} (h : w.ownsRow base e size v n xs) (he : Ext w w') : w'.ownsRow base e size v n xs :=
  h.kept (row := none) ⟨he.os, he.tape, he.output, he.size, fun k hk _ => he.block k hk⟩ (by cases v.ownBlock <;> simp)

def strRow (out : List (List UInt8)) : List Value := out.map fun s => .string ⟨s.toArray⟩
theorem strRow_snoc (out : List (List UInt8)) (s : List UInt8) : strRow (out ++ [s]) = strRow out ++ [.string ⟨s.toArray⟩] := by simp [strRow]

/-- The state of Decode's closure. -/
structure TakeSt (S bo ba q n : Nat) (d : List UInt8) (a : Nat) (v : Value) (out : List (List UInt8)) (W : World) : Prop where
  size : Blk W S (.cells #[.int .i64 n] 3)
  data : Blk W (S + 1) (.cells #[.string ⟨d.toArray⟩] 9)
  var : Blk W bo (.cells #[v] 24)
  loc : Blk W ba (.cells #[.int .i64 a] 3)
  row : W.ownsRow q 9 1 v out.length (strRow out)
  qS : S + 1 < q
  oS : S + 1 < bo
  aS : S + 1 < ba
  ne : bo ≠ ba
  qs : q ≤ W.heap.size
  flat : out.flatten = d.take a
  len : out.flatten.length = a
  le : a ≤ n
  pos : out.length ≤ a
  small : ∀ s ∈ out, s.length ≤ 1000000

theorem TakeSt.ext {S bo ba q n : Nat} {d : List UInt8} {a : Nat} {v : Value} {out : List (List UInt8)} {W W' : World} (h : TakeSt S bo ba q n d a v out W) (e : Ext W W') : TakeSt S bo ba q n d a v out W' :=
  { h with size := e.blk _ _ h.size, data := e.blk _ _ h.data, var := e.blk _ _ h.var, loc := e.blk _ _ h.loc, row := own_ext h.row e, qs := Nat.le_trans h.qs e.size }
theorem Blk.cell {w : World} {b : Nat} {v : Value} {t : TypeId} (h : Blk w b (.cells #[v] t)) : w.cell? ⟨b, 0, none⟩ = some v := by
  have hb : w.heap[b]? = _ := h
  simp [World.cell?, hb]
theorem Blk.soft {w : World} {b : Nat} {v : Value} {t : TypeId} (h : Blk w b (.cells #[v] t)) : w.frozen? ⟨b, 0, none⟩ = false := by
  have hb : w.heap[b]? = _ := h
  simp [World.frozen?, hb]
theorem Blk.grown {w w' : World} {row : Option Nat} {b : Nat} {o : Obj} (h : Blk w b o) (hg : w.grownBy w' row) (hne : row ≠ some b) : Blk w' b o := (hg.block b (Blk.lt h) (Ne.symm hne)).trans h
theorem Blk.other {w : World} {b : Nat} {o : Obj} (h : Blk w b o) (c : Nat) (v : Value) (hne : b ≠ c) : Blk (w.setCell ⟨c, 0, none⟩ v) b o := (heap_setCell_other w ⟨c, 0, none⟩ b v hne).trans h
theorem Blk.put {w : World} {b : Nat} {v u : Value} {t : TypeId} (h : Blk w b (.cells #[v] t)) : Blk (w.setCell ⟨b, 0, none⟩ u) b (.cells #[u] t) := by
  have := heap_setCell_same w b 0 _ _ u h
  unfold Blk; rw [this]; rfl

theorem takeSt_step {S bo ba q n : Nat} {d : List UInt8} {a : Nat} {v v' : Value} {out : List (List UInt8)} {W W1 : World} (h : TakeSt S bo ba q n d a v out W) (len : Nat) (h1 : 1 ≤ len) (hn : a + len ≤ n) (hd : d.length = n) (h5 : n ≤ 512)
    (hown : W1.ownsRow q 9 1 v' (out.length + 1) (strRow out ++ [.string ⟨((d.drop a).take len).toArray⟩])) (hg : W.grownBy W1 v.ownBlock) :
    TakeSt S bo ba q n d (a + len) v' (out ++ [(d.drop a).take len]) ((W1.setCell ⟨bo, 0, none⟩ v').setCell ⟨ba, 0, none⟩ (.int .i64 ((a + len : Nat) : Int))) ∧
    Below (S + 1) W ((W1.setCell ⟨bo, 0, none⟩ v').setCell ⟨ba, 0, none⟩ (.int .i64 ((a + len : Nat) : Int))) ∧ Blk W1 bo (.cells #[v] 24) ∧ Blk W1 ba (.cells #[.int .i64 (a : Nat)] 3) := by
  have e1 : v.ownBlock ≠ some bo := Lib.ownBlock_ne h.row h.var (by decide)
  have e2 : v.ownBlock ≠ some ba := Lib.ownBlock_ne h.row h.loc (by decide)
  have lt := h.row.lt
  have e3 : v.ownBlock ≠ some S := fun e => by have := (lt _ e).1; have := h.qS; omega
  have e4 : v.ownBlock ≠ some (S + 1) := fun e => by have := (lt _ e).1; have := h.qS; omega
  have o1 := Blk.grown h.var hg e1
  have o2 := Blk.grown h.loc hg e2
  have o3 := Blk.grown h.size hg e3
  have o4 := Blk.grown h.data hg e4
  have f1 : v'.ownBlock ≠ some bo := Lib.ownBlock_ne hown o1 (by decide)
  have f2 : v'.ownBlock ≠ some ba := Lib.ownBlock_ne hown o2 (by decide)
  have hSo := h.oS
  have hSa := h.aS
  have hlen : ((d.drop a).take len).length = len := by simp; omega
  refine ⟨⟨?_, ?_, ?_, ?_, ?_, h.qS, h.oS, h.aS, h.ne, ?_, ?_, ?_, hn, ?_, ?_⟩, ?_, o1, ?_⟩
  · exact Blk.other (Blk.other o3 _ _ (by omega)) _ _ (by omega)
  · exact Blk.other (Blk.other o4 _ _ (by omega)) _ _ (by omega)
  · exact Blk.other (Blk.put o1) _ _ h.ne
  · exact Blk.put (Blk.other o2 _ _ (Ne.symm h.ne))
  · rw [strRow_snoc]
    have := ownsRow_setCell_other (ownsRow_setCell_other (a := ⟨bo, 0, none⟩) hown f1 v') (a := ⟨ba, 0, none⟩) f2 (.int .i64 ((a + len : Nat) : Int))
    simpa using this
  · have := hg.size; have := h.qs; simp; omega
  · rw [List.flatten_append, h.flat]; simp [List.take_add]
  · rw [List.flatten_append, List.length_append, h.len]; simp; omega
  · have := h.pos; simp; omega
  · intro s hs
    rw [List.mem_append] at hs
    rcases hs with hs | hs
    · exact h.small s hs
    · simp at hs; subst hs; omega
  · refine ⟨hg.os, hg.tape, hg.output, by have := hg.size; simpa using this, fun k hk => ?_⟩
    have hb := heap_setCell_other (W1.setCell ⟨bo, 0, none⟩ v') ⟨ba, 0, none⟩ k (.int .i64 ((a + len : Nat) : Int)) (by simp; omega)
    have hb2 := heap_setCell_other W1 ⟨bo, 0, none⟩ k v' (by simp; omega)
    rw [hb, hb2]
    refine hg.block k (by have := Blk.lt h.data; omega) (fun e => ?_)
    have := (lt k e.symm).1; have := h.qS; omega
  · exact o2

/-- What the closure answers. -/
def TakeOut (S bo ba q n : Nat) (d : List UInt8) (a : Nat) (out : List (List UInt8)) (k len : Nat) (W : World) (e : Ending) (W' : World) : Prop :=
  Below (S + 1) W W' ∧ ((e = .returned (.bool true) ∧ ∃ v' out', TakeSt S bo ba q n d (a + k * len) v' out' W' ∧ out'.map List.length = out.map List.length ++ List.replicate k len) ∨
    (e = .returned (.bool false) ∧ (1 ≤ k → 1 ≤ len → a + k * len ≤ n → False)))

set_option maxRecDepth 100000 in
set_option maxHeartbeats 1000000 in
theorem take_any (S bo ba q n : Nat) (d : List UInt8) (hd : d.length = n) (h5 : n ≤ 512) (a : Nat) (v : Value) (out : List (List UInt8)) (k len : Nat) (hk : k ≤ 65535) (hl : len ≤ 65535) (W : World) (h : TakeSt S bo ba q n d a v out W) :
    Calls Tryd.prog 87 #[.int .i64 k, .int .i64 len, .pointer (some ⟨ba, 0, none⟩), .pointer (some ⟨S, 0, none⟩), .pointer (some ⟨bo, 0, none⟩), .pointer (some ⟨S + 1, 0, none⟩)] W (TakeOut S bo ba q n d a out k len W) := by
  have Hd := Lib.hid hd
  have HH := Lib.hid h
  clear hd h
  go_enter Tryd.func87, Tryd.ntmps87
  go_wp2
  go_loopw [10] (fun i wr => ∃ (j : Nat) (v' : Value) (out' : List (List UInt8)), j ≤ k ∧ i = .int .i64 j ∧ TakeSt S bo ba q n d (a + j * len) v' out' wr ∧ out'.map List.length = out.map List.length ++ List.replicate j len ∧ Below (S + 1) W wr) (fun i _ => k - (intOf i).toNat)
  case atStart => exact ⟨0, v, out, Nat.zero_le _, rfl, by simpa using HH.out, by simp, Below.refl _ _⟩
  case round =>
    obtain ⟨j, v', out', hj, rfl, hst, hml, hbel⟩ := hrel
    have c1 := Blk.cell hst.size
    have c2 := Blk.cell hst.data
    have c3 := Blk.cell hst.var
    have c4 := Blk.cell hst.loc
    have l1 := Blk.lt hst.size
    have l2 := Blk.lt hst.data
    have l3 := Blk.lt hst.var
    have l4 := Blk.lt hst.loc
    have hle := hst.le
    have hsum : Hid (a + j * len + len = a + (j + 1) * len) := Lib.hid (by rw [Nat.add_mul]; omega)
    have hmono : j < k → a + (j + 1) * len ≤ a + k * len := fun h => Nat.add_le_add_left (Nat.mul_le_mul_right _ h) _
    have HM := Lib.hid hmono
    clear hmono
    generalize hb : a + j * len = b at *
    have Hb := Lib.hid hb
    clear hb
    have Hst := Lib.hid hst
    have Hml := Lib.hid hml
    clear hst hml
    by_cases hjk : j < k
    · by_cases h1 : len < 1
      · go_wp2
        go_ret
        exact ⟨hbel, .inr ⟨rfl, fun _ h _ => by omega⟩⟩
      · by_cases h2 : n < b + len
        · have h2I : (n : Int) < b + len := by omega
          have h1I : decide ((len : Int) < 1) = false := by simp; omega
          go_wp2
          go_ret
          exact ⟨hbel, .inr ⟨rfl, fun _ _ h => by have := hsum.out; have := HM.out hjk; omega⟩⟩
        · have h2I : decide ((n : Int) < b + len) = false := by simp; omega
          have h1I : decide ((len : Int) < 1) = false := by simp; omega
          have hdl : b + len ≤ d.length := by have := Hd.out; omega
          have hdlI : (b : Int) + len ≤ d.length := by omega
          have hdl2 : d.length ≤ 1000 := by have := Hd.out; omega
          have hs1 : (0 : Int) ≤ b + len := by omega
          have hs2 : (b : Int) ≤ b + len := by omega
          have hs3 : ((b : Int) + len).toNat - b = len := by omega
          go_wp2
          refine wp_region_mk 8 (Ext.refl wr) (by kernel_rfl) (by kernel_rfl) (by kernel_rfl) ?_
          simp only [List.take_succ_cons, List.take_zero, List.take_nil, List.drop_succ_cons, List.drop_zero, List.drop_nil, List.map_cons, List.map_nil]
          repeat (first
            | (refine wpML_move _ _ rfl (by first | exact .inl rfl | exact .inr rfl) rfl (by first | exact Is.stable _ | exact Fresh.stable _ _ _) ?_
               simp only [setL, List.set_cons_succ, List.set_cons_zero, List.getD_cons_succ, List.getD_cons_zero])
            | (refine wpML_moveC _ rfl (by first | exact .inl rfl | exact .inr rfl) ?_
               simp only [setL, List.set_cons_succ, List.set_cons_zero])
            | (apply wpML_det rfl
               · intro a w' he hr K hK
                 simp [Reads, Oper.looksAt, Op.operands, Call.operands, factAt, Is] at hr
                 have hx := he.cell
                 go_simp
                 try go_bits
                 try (rw [if_neg (by omega)]; go_simp)
                 first
                   | exact hK _ (Ext.refl _)
               simp only [setL, List.set_cons_succ, List.set_cons_zero])
            | (refine wpML_fact (Fresh 1 1 (.cells #[.string ⟨((d.drop b).take len).toArray⟩] 9)) (Fresh.stable _ _ _) rfl ?_ ?_
               · intro a w' he hr K hK
                 simp [Reads, Oper.looksAt, Op.operands, Call.operands, factAt, Is] at hr
                 go_simp
                 exact hK _ _ (Ext.alloc _ _) (Fresh.new _ _ _ _)
               simp only [setL, List.set_cons_succ, List.set_cons_zero])
            | (apply wpML_det rfl
               · intro a w' he hr K hK
                 simp [Reads, Oper.looksAt, Op.operands, Call.operands, factAt, Fresh] at hr
                 obtain ⟨b, hr1, hr2⟩ := hr
                 go_simp
                 exact hK _ (Ext.refl _)
               simp only [setL, List.set_cons_succ, List.set_cons_zero]))
          intro w2 he2
          repeat (first | with_reducible refine rest_is _ _ _ _ ?_ | (with_reducible refine rest_fact _ _ _ _ ?_; intro _ _) | with_reducible refine rest_end _ _ ?_)
          simp only [List.reverse_cons, List.reverse_nil, List.nil_append, List.cons_append]
          clear hs1 hs2 hs3
          rename_i sl hfr
          obtain ⟨fb, rfl, hblk⟩ := hfr
          have hst2 := Hst.out.ext he2
          have hol : out'.length ≤ 1000 := by have := hst2.pos; omega
          have HS2 := Lib.hid hst2
          have hrow := hst2.row
          have hqs := hst2.qs
          clear hst2
          go_wp2_with (first | (at_builtin; go_must (refine wpList_app rfl (.tmp 21) (.tmp 28) 24 9 rfl q (.string ByteArray.empty) 1 16 Tryd.underlying24 infoStrW rfl (by decide) _ _ _ rfl hrow _ [.string _] rfl hblk rfl (by intro u hu; simp at hu; subst hu; rfl) (by omega) (by decide) hqs ?_; intro v2 w1 hown1 hgr1; obtain ⟨n2, p2, cp2, rfl⟩ : ∃ n2 p2 cp2, v2 = .slice p2 n2 cp2 := (by obtain ⟨p2, cp2, hv2, _⟩ := own_cells hown1; exact ⟨_, p2, cp2, hv2⟩); obtain ⟨hst3, hbel3, hb1, hb2⟩ := takeSt_step HS2.out len (by omega) (by omega) Hd.out h5 hown1 hgr1; have f1 := Blk.cell hb1; have f2 := Blk.soft hb1; have f3 := Blk.cell hb2; have f4 := Blk.soft hb2; have f5 := Blk.lt hb1; have f6 := HS2.out.ne; have f7 := Ne.symm HS2.out.ne; have HS3 := Lib.hid hst3; clear hst3 hown1 hgr1)))
          rw [← Int.natCast_add]
          go_roundw
          case rel => exact ⟨j + 1, _, out' ++ [(d.drop b).take len], by omega, by go_num, by rw [← hsum.out]; exact HS3.out, by rw [List.map_append, Hml.out, List.replicate_succ']; simp; omega, hbel.trans ((Below.mono he2 (by omega)).trans hbel3)⟩
          case measure => simp [intOf]; omega
    · have hjI : decide ((j : Int) < k) = false := by simp; omega
      have hjk' : j = k := by omega
      subst hjk'
      go_wp2
      go_ret
      exact ⟨hbel, .inl ⟨rfl, v', out', by rw [Hb.out]; exact Hst.out, Hml.out⟩⟩
end Go.Proofs.YtkhlglkipeoalaaDoor
