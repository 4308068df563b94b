/- A part of the proof. -/
import Derived.Test.YtifmbcjbccedfaaGreatDoorW1
import Derived.Lib.Builder
import Derived.RegionTactic
import Derived.Lib.BufferWrite
set_option linter.unusedSimpArgs false
set_option linter.unusedVariables false
namespace Go.Proofs.YtifmbcjbccedfaaGreatDoor
open Go.RowKit Dsd
def strLen : Value → Nat | .string b => b.size | _ => 0
def trimL (c : Nat) (l : List UInt8) : List UInt8 := l.dropWhile fun x => x.toNat == c
def trimR (c : Nat) (l : List UInt8) : List UInt8 := (l.reverse.dropWhile fun x => x.toNat == c).reverse
theorem trimL_cons (c : Nat) (x : UInt8) (l : List UInt8) : trimL c (x :: l) = if x.toNat = c then trimL c l else x :: l := by
 unfold trimL; rw [List.dropWhile_cons]; simp
theorem trimR_snoc (c : Nat) (x : UInt8) (l : List UInt8) : trimR c (l ++ [x]) = if x.toNat = c then trimR c l else l ++ [x] := by
 unfold trimR; rw [List.reverse_append, List.reverse_singleton, List.singleton_append, List.dropWhile_cons]
 by_cases h : x.toNat = c
 · simp [h]
 · simp [h]
theorem byt_snoc (l : List UInt8) (x : UInt8) : byt (l ++ [x]) l.length = x.toNat := by simp [byt]
theorem trimR_le (c : Nat) (l : List UInt8) : (trimR c l).length ≤ l.length := by
 unfold trimR; rw [List.length_reverse]; exact Nat.le_trans (List.dropWhile_sublist _).length_le (by simp)
theorem dw_nil (p : UInt8 → Bool) (l : List UInt8) : l.dropWhile p = [] ↔ ∀ x ∈ l, p x = true := by
 induction l with
 | nil => simp
 | cons a l ih => rw [List.dropWhile_cons]; by_cases h : p a = true <;> simp [h, ih]
theorem trim_nil (l : List UInt8) : trimL 0 (trimR 0 l) = [] ↔ l = List.replicate l.length 0 := by
 have e1 : trimL 0 (trimR 0 l) = [] → ∀ x ∈ l, x.toNat = 0 := by
   intro h x hx
   have h2 : ∀ y ∈ trimR 0 l, (y.toNat == 0) = true := by
     unfold trimL at h; exact (dw_nil _ _).1 h
   by_cases hx0 : x.toNat = 0
   · exact hx0
   · have hd : (l.reverse.dropWhile fun x => x.toNat == 0) ≠ [] := by
       intro hh; have := (dw_nil _ _).1 hh x (by simpa using hx); simp [hx0] at this
     have hh := List.head_dropWhile_not (fun x : UInt8 => x.toNat == 0) hd
     have hm : (l.reverse.dropWhile fun x => x.toNat == 0).head hd ∈ trimR 0 l := by
       unfold trimR; rw [List.mem_reverse]; exact List.head_mem hd
     rw [h2 _ hm] at hh; cases hh
 constructor
 · intro h; rw [List.eq_replicate_iff]; exact ⟨rfl, fun x hx => UInt8.toNat_inj.1 (e1 h x hx)⟩
 · intro h
   have h0 : ∀ x ∈ l, x.toNat = 0 := fun x hx => by rw [h] at hx; rw [List.eq_of_mem_replicate hx]; rfl
   have : trimR 0 l = [] := by
     unfold trimR; rw [List.reverse_eq_nil_iff, dw_nil]; intro x hx; simp [h0 x (by simpa using hx)]
   rw [this]; rfl
set_option maxRecDepth 100000 in
theorem trimLeftByte_any (l : List UInt8) (c : Nat) (hl : l.length ≤ 1000000) (w : World) :
   Calls Tryz.prog 174 #[.string ⟨l.toArray⟩, .int .u8 c] w fun e w' => e = .returned (.string ⟨(trimL c l).toArray⟩) ∧ w' = w := by
 go_enter Tryz.func174, Tryz.ntmps174
 go_wp2
 go_loop [0] (fun s => ∃ m : List UInt8, s = .string ⟨m.toArray⟩ ∧ trimL c m = trimL c l ∧ m.length ≤ 1000000) (fun s => strLen s)
 case atStart => exact ⟨l, rfl, rfl, hl⟩
 case round =>
   obtain ⟨m, rfl, ht, hm⟩ := hrel
   cases m with
   | nil =>
     go_wp2
     go_ret
     exact ⟨ret_str (by rw [← ht]; rfl), rfl⟩
   | cons x m =>
     have hb : byt (x :: m) 0 = x.toNat := rfl
     rw [trimL_cons] at ht
     simp at hm
     by_cases hx : x.toNat = c
     · rw [if_pos hx] at ht
       have hxb : ((x.toNat : Int) == (c : Int)) = true := by simp [hx]
       have HT := Lib.hid ht
       clear ht hx
       go_wp2
       go_round
       case rel => exact ⟨m, rfl, HT.out, by omega⟩
       case measure => simp [strLen, ByteArray.size]
     · rw [if_neg hx] at ht
       have hxb : ((x.toNat : Int) == (c : Int)) = false := by simp; omega
       have HT := Lib.hid ht
       clear ht hx
       go_wp2
       go_ret
       exact ⟨ret_str HT.out, rfl⟩
set_option maxRecDepth 100000 in
theorem trimRightByte_any (l : List UInt8) (c : Nat) (hl : l.length ≤ 1000000) (w : World) :
   Calls Tryz.prog 175 #[.string ⟨l.toArray⟩, .int .u8 c] w fun e w' => e = .returned (.string ⟨(trimR c l).toArray⟩) ∧ w' = w := by
 go_enter Tryz.func175, Tryz.ntmps175
 go_wp2
 go_loop [0] (fun s => ∃ m : List UInt8, s = .string ⟨m.toArray⟩ ∧ trimR c m = trimR c l ∧ m.length ≤ 1000000) (fun s => strLen s)
 case atStart => exact ⟨l, rfl, rfl, hl⟩
 case round =>
   obtain ⟨m, rfl, ht, hm⟩ := hrel
   by_cases hm0 : m = []
   · subst hm0
     go_wp2
     go_ret
     exact ⟨ret_str (by rw [← ht]; rfl), rfl⟩
   · obtain ⟨m', x, hmx⟩ : ∃ m' x, m = m' ++ [x] := ⟨m.dropLast, m.getLast hm0, (List.dropLast_concat_getLast hm0).symm⟩
     obtain ⟨k, hk⟩ : ∃ k, k = m'.length := ⟨_, rfl⟩
     have hb : byt m k = x.toNat := by rw [hmx, hk]; exact byt_snoc m' x
     have htk : m.take k = m' := by rw [hmx, hk]; simp
     have hsz : m.length = k + 1 := by rw [hmx, hk]; simp
     have ht2 : trimR c m = if x.toNat = c then trimR c m' else m := by rw [hmx]; exact trimR_snoc c x m'
     rw [ht] at ht2
     have hk0 : (0 : Int) < k + 1 := by omega
     have hk1 : k ≤ 1000000 := by omega
     have hm' : m'.length ≤ 1000000 := by omega
     clear hmx ht
     by_cases hx : x.toNat = c
     · rw [if_pos hx] at ht2
       have hxb : ((x.toNat : Int) == (c : Int)) = true := by simp [hx]
       have HT := Lib.hid ht2
       have hk' := Lib.hid hk
       clear ht2 hx hk
       go_wp2
       go_round
       case rel => exact ⟨m', rfl, HT.out.symm, hm'⟩
       case measure => have := hk'.out; simp [strLen, ByteArray.size]; omega
     · rw [if_neg hx] at ht2
       have hxb : ((x.toNat : Int) == (c : Int)) = false := by simp; omega
       have HT := Lib.hid ht2
       clear ht2 hx hk
       go_wp2
       go_ret
       exact ⟨ret_str HT.out.symm, rfl⟩
set_option maxRecDepth 100000 in
theorem Trim_zero (l : List UInt8) (hl : l.length ≤ 1000000) (w : World) :
   Calls Tryz.prog 155 #[.string ⟨l.toArray⟩, .string ⟨[0].toArray⟩] w fun e w' => e = .returned (.string ⟨(trimL 0 (trimR 0 l)).toArray⟩) ∧ ∃ n, w' = w.drewN n := by
 by_cases h0 : l = []
 · subst h0
   go_enter Tryz.func155, Tryz.ntmps155
   go_wp2
   go_ret
   exact ⟨rfl, 0, rfl⟩
 · have hne : (l == []) = false := by simpa using h0
   have hR := trimRightByte_any l 0 hl
   have hL := trimLeftByte_any (trimR 0 l) 0 (Nat.le_trans (trimR_le 0 l) hl)
   generalize hr : trimR 0 l = r at *
   generalize hll : trimL 0 r = q at *
   clear hr hll h0
   go_enter Tryz.func155, Tryz.ntmps155
   go_wp2
   have hb0 : byt [0] 0 = 0 := rfl
   go_quiet (first | (go_at_call 175; go_loud (exact Calls.quiet_of_same (hR _))) | (go_at_call 174; exact Calls.quiet_of_same (hL _)))
   go_wp2
   go_ret
   exact ⟨rfl, nq, rfl⟩
set_option maxRecDepth 100000 in
theorem Unused_any (l : List UInt8) (hl : l.length ≤ 1000000) (w : World) :
   Calls Tryz.prog 122 #[.string ⟨l.toArray⟩] w fun e w' => e = .returned (.bool (l == List.replicate l.length 0)) ∧ ∃ n, w' = w.drewN n := by
 have hT := Trim_zero l hl
 have hE : Hid ((trimL 0 (trimR 0 l)).isEmpty = (l == List.replicate l.length 0)) := Lib.hid (by
   have := trim_nil l
   rw [Bool.eq_iff_iff]; simpa using this)
 generalize trimL 0 (trimR 0 l) = q at *
 go_enter Tryz.func122, Tryz.ntmps122
 go_wp2_with (go_at_call 155; refine (hT _).mono ?_; rintro e w' ⟨rfl, n, rfl⟩)
 go_ret
 exact ⟨ret_bool hE.out, n, rfl⟩
def checkErr (size : Int) (l : List UInt8) : Int := if (l.length : Int) ≠ size then 11 else if l == List.replicate l.length 0 then 9 else 0
set_option maxRecDepth 100000 in
theorem check_any (size : Int) (l : List UInt8) (hl : l.length ≤ 1000000) (w : World) :
   Calls Tryz.prog 72 #[.int .i64 size, .string ⟨l.toArray⟩] w fun e w' => e = .returned (.int .i64 (checkErr size l)) ∧ ∃ n, w' = w.drewN n := by
 have hU := Unused_any l hl
 by_cases h1 : (l.length : Int) = size
 · have h1' : ((l.length : Int) != size) = false := by simp [h1]
   cases h2 : l == List.replicate l.length 0
   · have hE : Hid (checkErr size l = 0) := Lib.hid (by unfold checkErr; rw [h2]; simp [h1])
     rw [h2] at hU
     clear h1 h2
     go_enter Tryz.func72, Tryz.ntmps72
     go_wp2_with (go_at_call 122; refine (hU _).mono ?_; rintro e w' ⟨rfl, n, rfl⟩)
     go_ret
     exact ⟨ret_int hE.out.symm, n, rfl⟩
   · have hE : Hid (checkErr size l = 9) := Lib.hid (by unfold checkErr; rw [h2]; simp [h1])
     rw [h2] at hU
     clear h1 h2
     go_enter Tryz.func72, Tryz.ntmps72
     go_wp2_with (go_at_call 122; refine (hU _).mono ?_; rintro e w' ⟨rfl, n, rfl⟩)
     go_ret
     exact ⟨ret_int hE.out.symm, n, rfl⟩
 · have h1' : ((l.length : Int) != size) = true := by simpa using h1
   have hE : Hid (checkErr size l = 11) := Lib.hid (by unfold checkErr; rw [if_pos h1])
   clear h1
   go_enter Tryz.func72, Tryz.ntmps72
   go_wp2
   go_ret
   exact ⟨ret_int hE.out.symm, 0, rfl⟩
end Go.Proofs.YtifmbcjbccedfaaGreatDoor
namespace Go.Proofs.YtifmbcjbccedfaaGreatDoor
open Go.RowKit Dsd
def strRow (out : List (List UInt8)) : List Value := out.map fun s => .string ⟨s.toArray⟩
theorem strRow_snoc (out : List (List UInt8)) (s : List UInt8) : strRow (out ++ [s]) = strRow out ++ [.string ⟨s.toArray⟩] := by simp [strRow]
structure TakeSt (S bo ba q n : Nat) (d : List UInt8) (a : Nat) (v : Value) (out : List (List UInt8)) (W : World) : Prop where
 size : Blk W S (.cells #[.int .i64 n] 3)
 data : Blk W (S + 1) (.cells #[.string ⟨d.toArray⟩] 9)
 var : Blk W bo (.cells #[v] 30)
 loc : Blk W ba (.cells #[.int .i64 a] 3)
 row : W.ownsRow q 9 1 v out.length (strRow out)
 qS : S + 1 < q
 oS : S + 1 < bo
 aS : S + 1 < ba
 ne : bo ≠ ba
 qs : q ≤ W.heap.size
 flat : out.flatten = d.take a
 len : out.flatten.length = a
 le : a ≤ n
 pos : out.length ≤ a
 small : ∀ s ∈ out, s.length ≤ 1000000
theorem TakeSt.ext {S bo ba q n : Nat} {d : List UInt8} {a : Nat} {v : Value} {out : List (List UInt8)} {W W' : World} (h : TakeSt S bo ba q n d a v out W) (e : Ext W W') : TakeSt S bo ba q n d a v out W' :=
 { h with size := e.blk _ _ h.size, data := e.blk _ _ h.data, var := e.blk _ _ h.var, loc := e.blk _ _ h.loc, row := own_ext h.row e, qs := Nat.le_trans h.qs e.size }
theorem takeSt_step {S bo ba q n : Nat} {d : List UInt8} {a : Nat} {v v' : Value} {out : List (List UInt8)} {W W1 : World} (h : TakeSt S bo ba q n d a v out W) (len : Nat) (h1 : 1 ≤ len) (hn : a + len ≤ n) (hd : d.length = n) (h5 : n ≤ 512)
   (hown : W1.ownsRow q 9 1 v' (out.length + 1) (strRow out ++ [.string ⟨((d.drop a).take len).toArray⟩])) (hg : W.grownBy W1 v.ownBlock) :
   TakeSt S bo ba q n d (a + len) v' (out ++ [(d.drop a).take len]) ((W1.setCell ⟨bo, 0, none⟩ v').setCell ⟨ba, 0, none⟩ (.int .i64 ((a + len : Nat) : Int))) ∧
   Below (S + 1) W ((W1.setCell ⟨bo, 0, none⟩ v').setCell ⟨ba, 0, none⟩ (.int .i64 ((a + len : Nat) : Int))) ∧ Blk W1 bo (.cells #[v] 30) ∧ Blk W1 ba (.cells #[.int .i64 (a : Nat)] 3) := by
 have e1 : v.ownBlock ≠ some bo := Lib.ownBlock_ne h.row h.var (by decide)
 have e2 : v.ownBlock ≠ some ba := Lib.ownBlock_ne h.row h.loc (by decide)
 have lt := h.row.lt
 have e3 : v.ownBlock ≠ some S := fun e => by have := (lt _ e).1; have := h.qS; omega
 have e4 : v.ownBlock ≠ some (S + 1) := fun e => by have := (lt _ e).1; have := h.qS; omega
 have o1 := Blk.grown h.var hg e1
 have o2 := Blk.grown h.loc hg e2
 have o3 := Blk.grown h.size hg e3
 have o4 := Blk.grown h.data hg e4
 have f1 : v'.ownBlock ≠ some bo := Lib.ownBlock_ne hown o1 (by decide)
 have f2 : v'.ownBlock ≠ some ba := Lib.ownBlock_ne hown o2 (by decide)
 have hSo := h.oS
 have hSa := h.aS
 have hlen : ((d.drop a).take len).length = len := by simp; omega
 refine ⟨⟨?_, ?_, ?_, ?_, ?_, h.qS, h.oS, h.aS, h.ne, ?_, ?_, ?_, hn, ?_, ?_⟩, ?_, o1, ?_⟩
 · exact Blk.other (Blk.other o3 _ _ (by omega)) _ _ (by omega)
 · exact Blk.other (Blk.other o4 _ _ (by omega)) _ _ (by omega)
 · exact Blk.other (Blk.put o1) _ _ h.ne
 · exact Blk.put (Blk.other o2 _ _ (Ne.symm h.ne))
 · rw [strRow_snoc]
   have := ownsRow_setCell_other (ownsRow_setCell_other (a := ⟨bo, 0, none⟩) hown f1 v') (a := ⟨ba, 0, none⟩) f2 (.int .i64 ((a + len : Nat) : Int))
   simpa using this
 · have := hg.size; have := h.qs; simp; omega
 · rw [List.flatten_append, h.flat]; simp [List.take_add]
 · rw [List.flatten_append, List.length_append, h.len]; simp; omega
 · have := h.pos; simp; omega
 · intro s hs
   rw [List.mem_append] at hs
   rcases hs with hs | hs
   · exact h.small s hs
   · simp at hs; subst hs; omega
 · refine ⟨hg.os, hg.tape, hg.output, by have := hg.size; simpa using this, fun k hk => ?_⟩
   have hb := heap_setCell_other (W1.setCell ⟨bo, 0, none⟩ v') ⟨ba, 0, none⟩ k (.int .i64 ((a + len : Nat) : Int)) (by simp; omega)
   have hb2 := heap_setCell_other W1 ⟨bo, 0, none⟩ k v' (by simp; omega)
   rw [hb, hb2]
   refine hg.block k (by have := Blk.lt h.data; omega) (fun e => ?_)
   have := (lt k e.symm).1; have := h.qS; omega
 · exact o2
def TakeOut (S bo ba q n : Nat) (d : List UInt8) (a : Nat) (out : List (List UInt8)) (k len : Nat) (W : World) (e : Ending) (W' : World) : Prop :=
 Below (S + 1) W W' ∧ ((e = .returned (.bool true) ∧ ∃ v' out', TakeSt S bo ba q n d (a + k * len) v' out' W' ∧ out'.map List.length = out.map List.length ++ List.replicate k len) ∨
   (e = .returned (.bool false) ∧ (1 ≤ k → 1 ≤ len → a + k * len ≤ n → False)))
set_option maxRecDepth 100000 in
set_option maxHeartbeats 1000000 in
theorem take_any (S bo ba q n : Nat) (d : List UInt8) (hd : d.length = n) (h5 : n ≤ 512) (a : Nat) (v : Value) (out : List (List UInt8)) (k len : Nat) (hk : k ≤ 65535) (hl : len ≤ 65535) (W : World) (h : TakeSt S bo ba q n d a v out W) :
   Calls Tryz.prog 74 #[.int .i64 k, .int .i64 len, .pointer (some ⟨ba, 0, none⟩), .pointer (some ⟨S, 0, none⟩), .pointer (some ⟨bo, 0, none⟩), .pointer (some ⟨S + 1, 0, none⟩)] W (TakeOut S bo ba q n d a out k len W) := by
 have Hd := Lib.hid hd
 have HH := Lib.hid h
 clear hd h
 go_enter Tryz.func74, Tryz.ntmps74
 go_wp2
 go_loopw [10] (fun i wr => ∃ (j : Nat) (v' : Value) (out' : List (List UInt8)), j ≤ k ∧ i = .int .i64 j ∧ TakeSt S bo ba q n d (a + j * len) v' out' wr ∧ out'.map List.length = out.map List.length ++ List.replicate j len ∧ Below (S + 1) W wr) (fun i _ => k - (intOf i).toNat)
 case atStart => exact ⟨0, v, out, Nat.zero_le _, rfl, by simpa using HH.out, by simp, Below.refl _ _⟩
 case round =>
   obtain ⟨j, v', out', hj, rfl, hst, hml, hbel⟩ := hrel
   have c1 := Blk.cell hst.size
   have c2 := Blk.cell hst.data
   have c3 := Blk.cell hst.var
   have c4 := Blk.cell hst.loc
   have l1 := Blk.lt hst.size
   have l2 := Blk.lt hst.data
   have l3 := Blk.lt hst.var
   have l4 := Blk.lt hst.loc
   have hle := hst.le
   have hsum : Hid (a + j * len + len = a + (j + 1) * len) := Lib.hid (by rw [Nat.add_mul]; omega)
   have hmono : j < k → a + (j + 1) * len ≤ a + k * len := fun h => Nat.add_le_add_left (Nat.mul_le_mul_right _ h) _
   have HM := Lib.hid hmono
   clear hmono
   generalize hb : a + j * len = b at *
   have Hb := Lib.hid hb
   clear hb
   have Hst := Lib.hid hst
   have Hml := Lib.hid hml
   clear hst hml
   by_cases hjk : j < k
   · by_cases h1 : len < 1
     · go_wp2
       go_ret
       exact ⟨hbel, .inr ⟨rfl, fun _ h _ => by omega⟩⟩
     · by_cases h2 : n < b + len
       · have h2I : (n : Int) < b + len := by omega
         have h1I : decide ((len : Int) < 1) = false := by simp; omega
         go_wp2
         go_ret
         exact ⟨hbel, .inr ⟨rfl, fun _ _ h => by have := hsum.out; have := HM.out hjk; omega⟩⟩
       · have h2I : decide ((n : Int) < b + len) = false := by simp; omega
         have h1I : decide ((len : Int) < 1) = false := by simp; omega
         have hdl : b + len ≤ d.length := by have := Hd.out; omega
         have hdlI : (b : Int) + len ≤ d.length := by omega
         have hdl2 : d.length ≤ 1000 := by have := Hd.out; omega
         have hs1 : (0 : Int) ≤ b + len := by omega
         have hs2 : (b : Int) ≤ b + len := by omega
         have hs3 : ((b : Int) + len).toNat - b = len := by omega
         go_wp2
         refine wp_region_mk 8 (Ext.refl wr) (by kernel_rfl) (by kernel_rfl) (by kernel_rfl) ?_
         simp only [List.take_succ_cons, List.take_zero, List.take_nil, List.drop_succ_cons, List.drop_zero, List.drop_nil, List.map_cons, List.map_nil]
         repeat (first
           | (refine wpML_move _ _ rfl (by first | exact .inl rfl | exact .inr rfl) rfl (by first | exact Is.stable _ | exact Fresh.stable _ _ _) ?_
              simp only [setL, List.set_cons_succ, List.set_cons_zero, List.getD_cons_succ, List.getD_cons_zero])
           | (refine wpML_moveC _ rfl (by first | exact .inl rfl | exact .inr rfl) ?_
              simp only [setL, List.set_cons_succ, List.set_cons_zero])
           | (apply wpML_det rfl
              · intro a w' he hr K hK
                simp [Reads, Oper.looksAt, Op.operands, Call.operands, factAt, Is] at hr
                have hx := he.cell
                go_simp
                try go_bits
                try (rw [if_neg (by omega)]; go_simp)
                first
                  | exact hK _ (Ext.refl _)
              simp only [setL, List.set_cons_succ, List.set_cons_zero])
           | (refine wpML_fact (Fresh 1 1 (.cells #[.string ⟨((d.drop b).take len).toArray⟩] 9)) (Fresh.stable _ _ _) rfl ?_ ?_
              · intro a w' he hr K hK
                simp [Reads, Oper.looksAt, Op.operands, Call.operands, factAt, Is] at hr
                go_simp
                exact hK _ _ (Ext.alloc _ _) (Fresh.new _ _ _ _)
              simp only [setL, List.set_cons_succ, List.set_cons_zero])
           | (apply wpML_det rfl
              · intro a w' he hr K hK
                simp [Reads, Oper.looksAt, Op.operands, Call.operands, factAt, Fresh] at hr
                obtain ⟨b, hr1, hr2⟩ := hr
                go_simp
                exact hK _ (Ext.refl _)
              simp only [setL, List.set_cons_succ, List.set_cons_zero]))
         intro w2 he2
         repeat (first | with_reducible refine rest_is _ _ _ _ ?_ | (with_reducible refine rest_fact _ _ _ _ ?_; intro _ _) | with_reducible refine rest_end _ _ ?_)
         simp only [List.reverse_cons, List.reverse_nil, List.nil_append, List.cons_append]
         clear hs1 hs2 hs3
         rename_i sl hfr
         obtain ⟨fb, rfl, hblk⟩ := hfr
         have hst2 := Hst.out.ext he2
         have hol : out'.length ≤ 1000 := by have := hst2.pos; omega
         have HS2 := Lib.hid hst2
         have hrow := hst2.row
         have hqs := hst2.qs
         clear hst2
         go_wp2_with (first | (at_builtin; go_must (refine wpList_app rfl (.tmp 21) (.tmp 28) 30 9 rfl q (.string ByteArray.empty) 1 16 Tryz.underlying30 infoStrW rfl (by decide) _ _ _ rfl hrow _ [.string _] rfl hblk rfl (by intro u hu; simp at hu; subst hu; rfl) (by omega) (by decide) hqs ?_; intro v2 w1 hown1 hgr1; obtain ⟨n2, p2, cp2, rfl⟩ : ∃ n2 p2 cp2, v2 = .slice p2 n2 cp2 := (by obtain ⟨p2, cp2, hv2, _⟩ := own_cells hown1; exact ⟨_, p2, cp2, hv2⟩); obtain ⟨hst3, hbel3, hb1, hb2⟩ := takeSt_step HS2.out len (by omega) (by omega) Hd.out h5 hown1 hgr1; have f1 := Blk.cell hb1; have f2 := Blk.soft hb1; have f3 := Blk.cell hb2; have f4 := Blk.soft hb2; have f5 := Blk.lt hb1; have f6 := HS2.out.ne; have f7 := Ne.symm HS2.out.ne; have HS3 := Lib.hid hst3; clear hst3 hown1 hgr1)))
         rw [← Int.natCast_add]
         go_roundw
         case rel => exact ⟨j + 1, _, out' ++ [(d.drop b).take len], by omega, by go_num, by rw [← hsum.out]; exact HS3.out, by rw [List.map_append, Hml.out, List.replicate_succ']; simp; omega, hbel.trans ((Below.mono he2 (by omega)).trans hbel3)⟩
         case measure => simp [intOf]; omega
   · have hjI : decide ((j : Int) < k) = false := by simp; omega
     have hjk' : j = k := by omega
     subst hjk'
     go_wp2
     go_ret
     exact ⟨hbel, .inl ⟨rfl, v', out', by rw [Hb.out]; exact Hst.out, Hml.out⟩⟩
end Go.Proofs.YtifmbcjbccedfaaGreatDoor
namespace Go.Proofs.YtifmbcjbccedfaaGreatDoor
open Go.RowKit Dsd
theorem setIf_bytes (l : List UInt8) (i x : Nat) (hx : x < 256) : (byteCells l).setIfInBounds i (.int .u8 (x : Int)) = byteCells (l.set i (UInt8.ofNat x)) := by
 unfold byteCells
 apply Array.ext'
 simp [List.map_set, Nat.mod_eq_of_lt hx]
structure Page (W : World) (px bb n l r : Nat) (bytes : List UInt8) : Prop where
 box : Blk W px (.cells #[.slice (some ⟨bb, 0, none⟩) n n, .int .i64 (l : Nat), .int .i64 (r : Nat)] 177)
 row : Blk W bb (.cells (byteCells bytes) 5)
 len : bytes.length = n
 ne : px ≠ bb
structure Only (px bb : Nat) (W W' : World) : Prop where
 os : W'.os = W.os
 tape : W'.tape = W.tape
 output : W'.output = W.output
 size : W.heap.size ≤ W'.heap.size
 block : ∀ k, k < W.heap.size → k ≠ px → k ≠ bb → W'.heap[k]? = W.heap[k]?
theorem Only.refl (px bb : Nat) (W : World) : Only px bb W W := ⟨rfl, rfl, rfl, Nat.le_refl _, fun _ _ _ _ => rfl⟩
theorem Only.trans {px bb : Nat} {a b c : World} (h : Only px bb a b) (k : Only px bb b c) : Only px bb a c :=
 ⟨k.os.trans h.os, k.tape.trans h.tape, k.output.trans h.output, Nat.le_trans h.size k.size, fun i hi h1 h2 => (k.block i (Nat.lt_of_lt_of_le hi h.size) h1 h2).trans (h.block i hi h1 h2)⟩
theorem Only.drewN {px bb : Nat} {a b : World} (h : Only px bb a b) (n : Nat) : Only px bb a (b.drewN n) := ⟨h.os, h.tape, h.output, h.size, h.block⟩
theorem Only.drew {px bb : Nat} {a b : World} (h : Only px bb a b) : Only px bb a b.drew := ⟨h.os, h.tape, h.output, h.size, h.block⟩
theorem Only.of_ext {px bb : Nat} {a b : World} (h : Ext a b) : Only px bb a b := ⟨h.os, h.tape, h.output, h.size, fun k hk _ _ => Ext.block h k hk⟩
theorem Only.set {px bb : Nat} {a b : World} (h : Only px bb a b) (x : Addr) (v : Value) (hx : x.block = px ∨ x.block = bb) : Only px bb a (b.setCell x v) :=
 h.trans ⟨rfl, rfl, rfl, by simp, fun k hk h1 h2 => heap_setCell_other _ _ _ _ (by rcases hx with h | h <;> omega)⟩
theorem Only.ext {px bb : Nat} {w a b : World} (h : Only px bb a b) (he : Ext w a) (h1 : w.heap.size ≤ px) (h2 : w.heap.size ≤ bb) : Ext w b :=
 he.trans' ⟨h.os, h.tape, h.output, h.size, fun k hk => h.block k (Nat.lt_of_lt_of_le hk he.size) (by omega) (by omega)⟩
section
variable {W : World} {px bb n l r : Nat} {bytes : List UInt8}
theorem Page.drewN (h : Page W px bb n l r bytes) (k : Nat) : Page (W.drewN k) px bb n l r bytes := ⟨h.box, h.row, h.len, h.ne⟩
theorem Page.ext (h : Page W px bb n l r bytes) {W' : World} (e : Ext W W') : Page W' px bb n l r bytes := ⟨e.blk _ _ h.box, e.blk _ _ h.row, h.len, h.ne⟩
theorem Page.drew (h : Page W px bb n l r bytes) : Page W.drew px bb n l r bytes := ⟨h.box, h.row, h.len, h.ne⟩
theorem Page.cells (h : Page W px bb n l r bytes) : W.cell? ⟨px, 0, none⟩ = some (.slice (some ⟨bb, 0, none⟩) n n) ∧ W.cell? ⟨px, 1, none⟩ = some (.int .i64 (l : Nat)) ∧ W.cell? ⟨px, 2, none⟩ = some (.int .i64 (r : Nat)) := by
 have hb : W.heap[px]? = _ := h.box
 simp [World.cell?, hb]
theorem Page.byte (h : Page W px bb n l r bytes) (i : Nat) (hi : i < n) : W.cell? ⟨bb, i, none⟩ = some (.int .u8 (byt bytes i : Nat)) := by
 have hb : W.heap[bb]? = _ := h.row
 have := h.len
 have hi' : i < bytes.length := by omega
 simp [World.cell?, hb, byteCells, hi', byt, List.getD]
theorem Page.soft (h : Page W px bb n l r bytes) (i : Nat) : W.frozen? ⟨bb, i, none⟩ = false ∧ W.frozen? ⟨px, i, none⟩ = false := by
 have hb : W.heap[bb]? = _ := h.row
 have hp : W.heap[px]? = _ := h.box
 simp [World.frozen?, hb, hp]
theorem Page.setByte (h : Page W px bb n l r bytes) (i x : Nat) (hx : x < 256) : Page (W.setCell ⟨bb, i, none⟩ (.int .u8 (x : Int))) px bb n l r (bytes.set i (UInt8.ofNat x)) := by
 refine ⟨?_, ?_, by simp [h.len], h.ne⟩
 · have := heap_setCell_other W ⟨bb, i, none⟩ px (.int .u8 (x : Int)) h.ne
   exact this.trans h.box
 · have := heap_setCell_same W bb i _ _ (.int .u8 (x : Int)) h.row
   unfold Blk; rw [this, setIf_bytes _ _ _ hx]
theorem Page.setLeft (h : Page W px bb n l r bytes) (k : Nat) : Page (W.setCell ⟨px, 1, none⟩ (.int .i64 (k : Int))) px bb n k r bytes := by
 refine ⟨?_, ?_, h.len, h.ne⟩
 · have := heap_setCell_same W px 1 _ _ (.int .i64 (k : Int)) h.box
   unfold Blk; rw [this]; rfl
 · have := heap_setCell_other W ⟨px, 1, none⟩ bb (.int .i64 (k : Int)) (Ne.symm h.ne)
   exact this.trans h.row
theorem Page.setRight (h : Page W px bb n l r bytes) (k : Nat) : Page (W.setCell ⟨px, 2, none⟩ (.int .i64 (k : Int))) px bb n l k bytes := by
 refine ⟨?_, ?_, h.len, h.ne⟩
 · have := heap_setCell_same W px 2 _ _ (.int .i64 (k : Int)) h.box
   unfold Blk; rw [this]; rfl
 · have := heap_setCell_other W ⟨px, 2, none⟩ bb (.int .i64 (k : Int)) (Ne.symm h.ne)
   exact this.trans h.row
end
set_option maxRecDepth 100000 in
theorem two_any (px bb n l r : Nat) (bytes : List UInt8) (a x : Nat) (ha : a + 1 < n) (hn : n ≤ 512) (hx : x ≤ 65535) (W : World) (h : Page W px bb n l r bytes) :
   Calls Tryz.prog 137 #[.pointer (some ⟨px, 0, none⟩), .int .i64 a, .int .i64 x] W fun e W' => e = .returned (.tuple #[]) ∧ Page W' px bb n l r ((bytes.set a (UInt8.ofNat x)).set (a + 1) (UInt8.ofNat (x / 256))) ∧ Only px bb W W' := by
 obtain ⟨c0, _, _⟩ := h.cells
 have c1 := h.byte a (by omega)
 have c2 := h.byte (a + 1) ha
 have f1 := (h.soft a).1
 have f2 := (h.soft (a + 1)).1
 have HP := Lib.hid h
 clear h
 have haI : (a : Int) < n := by omega
 have haI2 : (a : Int) + 1 < n := by omega
 go_enter Tryz.func137, Tryz.ntmps137
 go_wp2
 go_region
 go_wp2
 go_end0
 have p1 := (HP.out.setByte a (x % 256) (by omega)).setByte (a + 1) (x / 256) (by omega)
 rw [ofNat_mod] at p1
 simp only [Int.natCast_emod, Int.natCast_ediv, Int.cast_ofNat_Int] at p1
 exact ⟨rfl, p1.drew, (((Only.refl px bb W).set _ _ (.inr rfl)).set _ _ (.inr rfl)).drew⟩
theorem two_int (px bb n l r : Nat) (bytes : List UInt8) (a x : Int) (h0 : 0 ≤ a) (ha : a + 1 < n) (hn : n ≤ 512) (hx0 : 0 ≤ x) (hx : x ≤ 65535) (W : World) (h : Page W px bb n l r bytes) :
   Calls Tryz.prog 137 #[.pointer (some ⟨px, 0, none⟩), .int .i64 a, .int .i64 x] W fun e W' => e = .returned (.tuple #[]) ∧ Page W' px bb n l r ((bytes.set a.toNat (UInt8.ofNat x.toNat)).set (a.toNat + 1) (UInt8.ofNat (x.toNat / 256))) ∧ Only px bb W W' := by
 obtain ⟨a, rfl⟩ := Int.eq_ofNat_of_zero_le h0
 obtain ⟨x, rfl⟩ := Int.eq_ofNat_of_zero_le hx0
 rw [Int.toNat_natCast, Int.toNat_natCast]
 exact two_any px bb n l r bytes a x (by omega) hn (by omega) W h
def layField (bytes : List UInt8) (a c x : Nat) : List UInt8 := ((bytes.set a (UInt8.ofNat c)).set (a + 1) (UInt8.ofNat x)).set (a + 2) (UInt8.ofNat (x / 256))
set_option maxRecDepth 100000 in
theorem field_pg (px bb n l r : Nat) (bytes : List UInt8) (c x : Nat) (hl : 3 ≤ l) (hln : l ≤ n) (hn : n ≤ 512) (hc : c < 256) (hx : x ≤ 65535) (W : World) (h : Page W px bb n l r bytes) :
   Calls Tryz.prog 98 #[.pointer (some ⟨px, 0, none⟩), .int .u8 c, .int .i64 x] W fun e W' => e = .returned (.tuple #[]) ∧ Page W' px bb n (l - 3) r (layField bytes (l - 3) c x) ∧ Only px bb W W' := by
 obtain ⟨l, rfl⟩ : ∃ k, l = k + 3 := ⟨l - 3, by omega⟩
 rw [Nat.add_sub_cancel]
 obtain ⟨c0, c1, c2⟩ := h.cells
 have c3 := h.byte l (by omega)
 have f1 := (h.soft l).1
 have f2 := (h.soft 1).2
 have hne := h.ne
 have hne' := Ne.symm h.ne
 have hlI : (l : Int) < n := by omega
 have e1 : ((l + 3 : Nat) : Int) - 3 = l := by omega
 have p1 := (h.setLeft l).setByte l c hc
 have HP1 := Lib.hid p1
 have Hl := Lib.hid h.len
 clear p1 h
 go_enter Tryz.func98, Tryz.ntmps98
 go_wp2
 go_region
 go_wp2_with (go_at_call 137; go_must (refine (two_int px bb n l r _ _ _ (by omega) (by omega) hn (by omega) (by omega) _ HP1.out.drew).mono ?_; rintro e W1 ⟨rfl, hp, ho⟩))
 go_end0
 refine ⟨rfl, ?_, ((((Only.refl px bb W).set _ _ (.inl rfl)).set _ _ (.inr rfl)).drew).trans ho⟩
 have e2 : ((l : Int) + 1).toNat = l + 1 := by omega
 rw [e2, Int.toNat_natCast] at hp
 exact hp
def pasted (W : World) (g : Nat) (cs : Array Value) : World := W.setRow g cs
@[go_sem] theorem pasted_cell (W : World) (g p i : Nat) (cs : Array Value) (h : p ≠ g) : (pasted W g cs).cell? ⟨p, i, none⟩ = W.cell? ⟨p, i, none⟩ := World.cell?_of_block (setRow_other W g p cs h)
@[go_sem] theorem pasted_frozen (W : World) (g p i : Nat) (cs : Array Value) (h : p ≠ g) : (pasted W g cs).frozen? ⟨p, i, none⟩ = W.frozen? ⟨p, i, none⟩ := World.frozen?_of_block (setRow_other W g p cs h)
theorem pasted_page {W : World} {px bb n l r : Nat} {bytes new : List UInt8} (h : Page W px bb n l r bytes) (hn : new.length = n) : Page (pasted W bb (byteCells new)) px bb n l r new :=
 ⟨(setRow_other W bb px _ h.ne).trans h.box, setRow_heap W bb _ _ _ _ h.row, hn, h.ne⟩
theorem pasted_only (px bb : Nat) (W : World) (cs : Array Value) : Only px bb W (pasted W bb cs) := ⟨rfl, rfl, rfl, by simp [pasted, World.setRow], fun k _ _ h2 => setRow_other W bb k cs h2⟩
def layOver (bytes : List UInt8) (r : Nat) (s : List UInt8) : List UInt8 := bytes.take r ++ s ++ bytes.drop (r + s.length)
theorem length_layOver (bytes : List UInt8) (r : Nat) (s : List UInt8) (h : r + s.length ≤ bytes.length) : (layOver bytes r s).length = bytes.length := by simp [layOver]; omega
set_option maxRecDepth 100000 in
theorem put_pg (px bb n l r : Nat) (bytes s : List UInt8) (hr : r + s.length ≤ n) (hrn : r < n) (hn : n ≤ 512) (W : World) (h : Page W px bb n l r bytes) :
   Calls Tryz.prog 99 #[.pointer (some ⟨px, 0, none⟩), .string ⟨s.toArray⟩] W fun e W' => e = .returned (.tuple #[]) ∧ Page W' px bb n l (r + s.length) (layOver bytes r s) ∧ Only px bb W W' := by
 obtain ⟨c0, c1, c2⟩ := h.cells
 have f1 := (h.soft 2).2
 have hne := h.ne
 have hne' := Ne.symm h.ne
 have hblk := h.row
 have hsz : (Tryz.prog.info? 5).map (·.size) = some 1 := by kernel_rfl
 have hcopy : ∀ W' : World, Blk W' bb (.cells (byteCells bytes) 5) → (Builtin.copy_ #[109, 9] 3 #[.slice (some ⟨bb, r, none⟩) (n - r) (n - r), .string ⟨s.toArray⟩]).run Tryz.prog W' = .ok (goInt s.length) (pasted W' bb (byteCells (layOver bytes r s))) := fun W' hW' => by
   have := Lib.run_copy_row_string (P := Tryz.prog) W' 109 9 3 5 bb r (n - r) (n - r) ⟨s.toArray⟩ (byteCells bytes) 5 Tryz.underlying109 hsz hW' (by simp [ByteArray.size]; omega) (by have := h.len; simp [ByteArray.size, byteCells]; omega)
   rw [this]
   have e : (byteCells bytes).toList.take r ++ Lib.byteCells s ++ (byteCells bytes).toList.drop (r + s.length) = (byteCells (layOver bytes r s)).toList := by
     simp [byteCells, layOver, Lib.byteCells, List.map_take, List.map_drop]
   have e2 : (ByteArray.mk s.toArray).size = s.length := by simp [ByteArray.size]
   simp only [e2]
   rw [e]; rfl
 have HP : Hid (∀ W' : World, Page W' px bb n l r bytes → Page (pasted W' bb (byteCells (layOver bytes r s))) px bb n l r (layOver bytes r s)) := Lib.hid fun W' h' => pasted_page h' ((length_layOver bytes r s (by have := h'.len; omega)).trans h'.len)
 have HW := Lib.hid h
 have hrI : (r : Int) < n := by omega
 have hrI2 : (r : Int) ≤ n := by omega
 generalize byteCells (layOver bytes r s) = cs at *
 clear h hsz
 go_enter Tryz.func99, Tryz.ntmps99
 go_wp2
 go_region
 go_wp2
 go_end0
 have p2 := (HP.out W.drew HW.out.drew).setRight (r + s.length)
 simp only [Int.natCast_add] at p2
 exact ⟨rfl, p2, (((Only.refl px bb W).drew).trans (pasted_only px bb _ _)).set _ _ (.inl rfl)⟩
def layTail (bytes : List UInt8) (n r g : Nat) : List UInt8 :=
 (((bytes.set (n - 4) (UInt8.ofNat r)).set (n - 4 + 1) (UInt8.ofNat (r / 256))).set (n - 2) (UInt8.ofNat g)).set (n - 2 + 1) (UInt8.ofNat (g / 256))
set_option maxRecDepth 100000 in
theorem done_pg (px bb n l r : Nat) (bytes : List UInt8) (hr : r ≤ l) (hl : l ≤ n) (h4 : 4 ≤ n) (hn : n ≤ 512) (W : World) (h : Page W px bb n l r bytes) :
   Calls Tryz.prog 100 #[.pointer (some ⟨px, 0, none⟩)] W fun e W' => e = .returned (.string ⟨(layTail bytes n r (l - r)).toArray⟩) ∧ Only px bb W W' := by
 obtain ⟨g, rfl⟩ : ∃ g, l = r + g := ⟨l - r, by omega⟩
 rw [Nat.add_sub_cancel_left]
 obtain ⟨c0, c1, c2⟩ := h.cells
 have HW := Lib.hid h
 clear h
 have e1 : ((r + g : Nat) : Int) - r = g := by omega
 have i1 : IntKind.i64.wrap ((n : Int) - 4) = n - 4 := IntWalk.i64_in _ (by omega)
 have i2 : IntKind.i64.wrap ((n : Int) - 2) = n - 2 := IntWalk.i64_in _ (by omega)
 have i3 : IntKind.i64.wrap ((r : Int) + g - r) = g := by rw [IntWalk.i64_in _ (by omega)]; omega
 have hpx := HW.out.box.lt
 go_enter Tryz.func100, Tryz.ntmps100
 go_wp2
 refine wp_region_mk 11 (Ext.refl W) (by kernel_rfl) (by kernel_rfl) (by kernel_rfl) ?_
 simp only [List.take_succ_cons, List.take_zero, List.take_nil, List.drop_succ_cons, List.drop_zero, List.drop_nil, List.map_cons, List.map_nil]
 repeat (first
   | (refine wpML_move _ _ rfl (by first | exact .inl rfl | exact .inr rfl) rfl (by first | exact Is.stable _ | exact Fresh.stable _ _ _) ?_
      simp only [setL, List.set_cons_succ, List.set_cons_zero, List.getD_cons_succ, List.getD_cons_zero])
   | (refine wpML_moveC _ rfl (by first | exact .inl rfl | exact .inr rfl) ?_
      simp only [setL, List.set_cons_succ, List.set_cons_zero])
   | (apply wpML_det rfl
      · intro a w' he hr K hK
        simp [Reads, Oper.looksAt, Op.operands, Call.operands, factAt, Is] at hr
        have hx := he.cell
        go_simp
        try go_bits
        try (rw [if_neg (by omega)]; go_simp)
        first
          | exact hK _ (Ext.refl _)
      simp only [setL, List.set_cons_succ, List.set_cons_zero])
   | (apply wpML_det rfl
      · intro a w' he hr K hK
        simp [Reads, Oper.looksAt, Op.operands, Call.operands, factAt, Fresh] at hr
        obtain ⟨b, hr1, hr2⟩ := hr
        go_simp
        exact hK _ (Ext.refl _)
      simp only [setL, List.set_cons_succ, List.set_cons_zero]))
 intro w2 he2
 repeat (first | with_reducible refine rest_is _ _ _ _ ?_ | (with_reducible refine rest_fact _ _ _ _ ?_; intro _ _) | with_reducible refine rest_end _ _ ?_)
 simp only [List.reverse_cons, List.reverse_nil, List.nil_append, List.cons_append]
 go_wp2_with (go_at_call 137; go_must (refine (two_int px bb n (r + g) r _ _ _ (by omega) (by omega) hn (by omega) (by omega) _ (HW.out.ext he2)).mono ?_; rintro e W1 ⟨rfl, hp1, ho1⟩))
 have hO1 := (Only.of_ext he2).trans ho1
 have e4 : ((n : Int) - 4).toNat = n - 4 := by omega
 rw [e4, Int.toNat_natCast] at hp1
 obtain ⟨d0, d1, d2⟩ := hp1.cells
 have HP1 := Lib.hid hp1
 have hpx1 := HP1.out.box.lt
 have w4 : ((r : Int) + g - r) = g := by omega
 have HO := Lib.hid hO1
 clear hp1 c0 c1 c2 e1 i1 he2 ho1 hO1 hpx
 refine wp_region_mk 16 (Ext.refl W1) (by kernel_rfl) (by kernel_rfl) (by kernel_rfl) ?_
 simp only [List.take_succ_cons, List.take_zero, List.take_nil, List.drop_succ_cons, List.drop_zero, List.drop_nil, List.map_cons, List.map_nil]
 repeat (first
   | (refine wpML_move _ _ rfl (by first | exact .inl rfl | exact .inr rfl) rfl (by first | exact Is.stable _ | exact Fresh.stable _ _ _) ?_
      simp only [setL, List.set_cons_succ, List.set_cons_zero, List.getD_cons_succ, List.getD_cons_zero])
   | (refine wpML_moveC _ rfl (by first | exact .inl rfl | exact .inr rfl) ?_
      simp only [setL, List.set_cons_succ, List.set_cons_zero])
   | (apply wpML_det rfl
      · intro a w' he hr K hK
        simp [Reads, Oper.looksAt, Op.operands, Call.operands, factAt, Is] at hr
        have hx := he.cell
        go_simp
        try go_bits
        try (rw [if_neg (by omega)]; go_simp)
        first
          | exact hK _ (Ext.refl _)
      simp only [setL, List.set_cons_succ, List.set_cons_zero])
   | (apply wpML_det rfl
      · intro a w' he hr K hK
        simp [Reads, Oper.looksAt, Op.operands, Call.operands, factAt, Fresh] at hr
        obtain ⟨b, hr1, hr2⟩ := hr
        go_simp
        exact hK _ (Ext.refl _)
      simp only [setL, List.set_cons_succ, List.set_cons_zero]))
 intro w2 he2
 repeat (first | with_reducible refine rest_is _ _ _ _ ?_ | (with_reducible refine rest_fact _ _ _ _ ?_; intro _ _) | with_reducible refine rest_end _ _ ?_)
 simp only [List.reverse_cons, List.reverse_nil, List.nil_append, List.cons_append]
 go_wp2_with fail
 refine (two_int px bb n (r + g) r _ _ _ (by omega) (by omega) hn (by omega) (by omega) _ (HP1.out.ext he2)).mono ?_
 rintro e W2 ⟨rfl, hp2, ho2⟩
 have e2 : ((n : Int) - 2).toNat = n - 2 := by omega
 rw [e2, Int.toNat_natCast] at hp2
 obtain ⟨g0, g1, g2⟩ := hp2.cells
 have hb2 := hp2.row
 have hl2 := hp2.len
 have hcv : (convert 109 9 (.slice (some ⟨bb, 0, none⟩) n n)).run Tryz.prog W2 = .ok (.string ⟨(layTail bytes n r g).toArray⟩) W2 :=
   run_row_string W2 _ _ 5 bb n n _ 5 (0, 0) Tryz.underlying109 Tryz.underlying5 Tryz.underlying9 hb2 hl2
 have HO2 := Lib.hid ((HO.out.trans (Only.of_ext he2)).trans ho2)
 clear hp2 d0 d1 d2 hb2 hl2 e2 i2 i3 w4 ho2 he2
 go_wp2
 go_ret
 exact ⟨rfl, HO2.out⟩
end Go.Proofs.YtifmbcjbccedfaaGreatDoor
namespace Go.Proofs.YtifmbcjbccedfaaGreatDoor
open Go.RowKit Dsd
def pageBytes (C F : List UInt8) (g : Nat) : List UInt8 := C ++ (List.replicate g 0 ++ (F ++ [0, 0, 0, 0]))
theorem set_mid (A B : List UInt8) (x y : UInt8) (k : Nat) (hk : k = A.length) : (A ++ x :: B).set k y = A ++ y :: B := by
 subst hk
 rw [List.set_append_right _ _ (Nat.le_refl _)]
 simp
theorem pageBytes_field (C F : List UInt8) (g c x : Nat) : layField (pageBytes C F (g + 3)) (C.length + g) c x = pageBytes C (fieldL c x ++ F) g := by
 have e : List.replicate (g + 3) (0 : UInt8) = List.replicate g 0 ++ [0, 0, 0] := by rw [← List.replicate_append_replicate]; rfl
 unfold layField pageBytes
 rw [e]
 have h1 : C ++ (List.replicate g (0 : UInt8) ++ [0, 0, 0] ++ (F ++ [0, 0, 0, 0])) = (C ++ List.replicate g 0) ++ 0 :: (0 :: 0 :: (F ++ [0, 0, 0, 0])) := by simp
 rw [h1, set_mid _ _ _ _ _ (by simp)]
 have h2 : (C ++ List.replicate g (0 : UInt8)) ++ UInt8.ofNat c :: (0 :: 0 :: (F ++ [0, 0, 0, 0])) = (C ++ List.replicate g 0 ++ [UInt8.ofNat c]) ++ 0 :: (0 :: (F ++ [0, 0, 0, 0])) := by simp
 rw [h2, set_mid _ _ _ _ _ (by simp; omega)]
 have h3 : (C ++ List.replicate g (0 : UInt8) ++ [UInt8.ofNat c]) ++ UInt8.ofNat x :: (0 :: (F ++ [0, 0, 0, 0])) = (C ++ List.replicate g 0 ++ [UInt8.ofNat c, UInt8.ofNat x]) ++ 0 :: (F ++ [0, 0, 0, 0]) := by simp
 rw [h3, set_mid _ _ _ _ _ (by simp; omega)]
 simp [fieldL]
theorem pageBytes_put (C F s : List UInt8) (g : Nat) : layOver (pageBytes C F (s.length + g)) C.length s = pageBytes (C ++ s) F g := by
 unfold layOver pageBytes
 rw [List.take_append_of_le_length (Nat.le_refl _), List.take_length]
 have h : C ++ (List.replicate (s.length + g) (0 : UInt8) ++ (F ++ [0, 0, 0, 0])) = (C ++ List.replicate s.length 0) ++ (List.replicate g 0 ++ (F ++ [0, 0, 0, 0])) := by
   rw [← List.replicate_append_replicate]; simp only [List.append_assoc]
 have hl : C.length + s.length = (C ++ List.replicate s.length (0 : UInt8)).length := by simp
 rw [h, hl, List.drop_left]
theorem pageBytes_tail (C F : List UInt8) (g n : Nat) (hn : n = C.length + g + F.length + 4) : layTail (pageBytes C F g) n C.length g = C ++ List.replicate g 0 ++ F ++ tailL C.length g := by
 unfold layTail pageBytes
 have h1 : C ++ (List.replicate g (0 : UInt8) ++ (F ++ [0, 0, 0, 0])) = (C ++ List.replicate g 0 ++ F) ++ 0 :: [0, 0, 0] := by simp
 rw [h1, set_mid _ _ _ _ _ (by simp; omega)]
 have h2 : ∀ a : UInt8, (C ++ List.replicate g 0 ++ F) ++ a :: [0, 0, 0] = (C ++ List.replicate g 0 ++ F ++ [a]) ++ 0 :: [0, 0] := by intro a; simp
 rw [h2, set_mid _ _ _ _ _ (by simp; omega)]
 have h3 : ∀ a b : UInt8, (C ++ List.replicate g 0 ++ F ++ [a]) ++ b :: [0, 0] = (C ++ List.replicate g 0 ++ F ++ [a, b]) ++ 0 :: [0] := by intro a b; simp
 rw [h3, set_mid _ _ _ _ _ (by simp; omega)]
 have h4 : ∀ a b c : UInt8, (C ++ List.replicate g 0 ++ F ++ [a, b]) ++ c :: [0] = (C ++ List.replicate g 0 ++ F ++ [a, b, c]) ++ 0 :: [] := by intro a b c; simp
 rw [h4, set_mid _ _ _ _ _ (by simp; omega)]
 simp [tailL]
theorem runFields_snoc (rs : List (Nat × Nat)) (r : Nat × Nat) : runFields (rs ++ [r]) = runField r ++ runFields rs := by simp [runFields]
set_option maxRecDepth 100000 in
theorem newPage_any (n : Nat) (h4 : 4 ≤ n) (hn : n ≤ 512) (w : World) :
   Calls Tryz.prog 95 #[.int .i64 n] w fun e w' => e = .returned (.pointer (some ⟨w.heap.size + 1, 0, none⟩)) ∧ Ext w w' ∧ w'.heap.size = w.heap.size + 2 ∧ Page w' (w.heap.size + 1) w.heap.size n (n - 4) 0 (List.replicate n 0) := by
 obtain ⟨i0, hi, hz0, hz1, hz2⟩ := info_parts infoByte
 have hmk := run_make_bytes (P := Tryz.prog) w 109 5 i0 n Tryz.underlying109 hi hz0 hz1 hz2 (by omega)
 clear hi hz0 hz1 hz2
 have HB : Hid (∀ B, Blk (w.alloc (.cells (byteCells (List.replicate n 0)) 5)) w.heap.size B → True) := Lib.hid (fun _ _ => trivial)
 go_enter Tryz.func95, Tryz.ntmps95
 go_wp2
 go_ret
 have e4 : ((n : Int) - 4) = ((n - 4 : Nat) : Int) := by omega
 rw [e4]
 refine ⟨rfl, (Ext.alloc _ _).trans (Ext.alloc _ _), by simp, ⟨?_, ?_, by simp, by omega⟩⟩
 · have := Blk.new (w.alloc (.cells (byteCells (List.replicate n 0)) 5)) (.cells #[.slice (some ⟨w.heap.size, 0, none⟩) n n, .int .i64 ((n - 4 : Nat) : Int), .int .i64 ((0 : Nat) : Int)] 177)
   simpa using this
 · exact Blk.alloc (Blk.new w _) _
structure EncI (w : World) (pb px bb n : Nat) (done : List (Nat × Nat)) (W : World) : Prop where
 ext : Ext w W
 pg : w.heap.size ≤ px
 row : w.heap.size ≤ bb
 var : W.cell? ⟨pb, 0, none⟩ = some (.pointer (some ⟨px, 0, none⟩))
 lt : pb < W.heap.size
 nepx : pb ≠ px
 nebb : pb ≠ bb
 page : Page W px bb n (n - 4 - (runFields done).length) 0 (pageBytes [] (runFields done) (n - 4 - (runFields done).length))
theorem EncI.only {w : World} {pb px bb n : Nat} {done : List (Nat × Nat)} {W W' : World} (h : EncI w pb px bb n done W) (o : Only px bb W W') : Ext w W' ∧ W'.cell? ⟨pb, 0, none⟩ = some (.pointer (some ⟨px, 0, none⟩)) ∧ pb < W'.heap.size := by
 refine ⟨o.ext h.ext h.pg h.row, ?_, Nat.lt_of_lt_of_le h.lt o.size⟩
 rw [World.cell?_of_block (w := W) (o.block pb h.lt h.nepx h.nebb)]
 exact h.var
set_option maxRecDepth 100000 in
set_option maxHeartbeats 1000000 in
theorem Encode1_any (w : World) (pb px bb n : Nat) (done : List (Nat × Nat)) (k len : Nat) (hn : n ≤ 512) (hk : 1 ≤ k) (hk2 : k ≤ 65535) (hl : len ≤ 65535) (hroom : (runFields (done ++ [(k, len)])).length + 4 ≤ n) (W : World) (h : EncI w pb px bb n done W) :
   Calls Tryz.prog 97 #[.int .i64 k, .int .i64 len, .pointer (some ⟨pb, 0, none⟩)] W fun e W' => e = .returned (.tuple #[]) ∧ EncI w pb px bb n (done ++ [(k, len)]) W' := by
 rw [runFields_snoc, List.length_append, length_runField] at hroom
 simp only at hroom
 have hv := h.var
 have HH := Lib.hid h
 by_cases h1 : k = 1
 · subst h1
   simp at hroom
   obtain ⟨g, hg⟩ : ∃ g, n - 4 - (runFields done).length = g + 3 := ⟨n - 4 - (runFields done).length - 3, by omega⟩
   have hp := h.page
   rw [hg] at hp
   have hf := field_pg px bb n (g + 3) 0 (pageBytes [] (runFields done) (g + 3)) 0 len (by omega) (by omega) hn (by omega) hl W hp
   have Hf := Lib.hid hf
   clear h hp hf
   go_enter Tryz.func97, Tryz.ntmps97
   go_wp2_with fail
   refine Hf.out.mono ?_
   rintro e W1 ⟨rfl, hp1, ho1⟩
   obtain ⟨q1, q2, q3⟩ := HH.out.only ho1
   go_wp2
   refine bodyPost_ret (results_none rfl _ _ _) rfl ?_
   refine ⟨rfl, ⟨q1, HH.out.pg, HH.out.row, q2, q3, HH.out.nepx, HH.out.nebb, ?_⟩⟩
   have e0 := pageBytes_field [] (runFields done) g 0 len
   simp only [List.length_nil, Nat.zero_add, Nat.add_sub_cancel] at e0 hp1
   rw [e0] at hp1
   have e1 : runFields (done ++ [(1, len)]) = fieldL 0 len ++ runFields done := by rw [runFields_snoc]; simp [runField]
   rw [e1]
   have e2 : n - 4 - (fieldL 0 len ++ runFields done).length = g := by simp [length_fieldL]; omega
   rw [e2]
   exact hp1
 · have hk1 : 1 < k := by omega
   rw [if_pos hk1] at hroom
   have hkI : ((k : Int) == 1) = false := by simp; omega
   obtain ⟨g, hg⟩ : ∃ g, n - 4 - (runFields done).length = g + 3 + 3 := ⟨n - 4 - (runFields done).length - 6, by omega⟩
   have hp := h.page
   rw [hg] at hp
   have hf := field_pg px bb n (g + 3 + 3) 0 (pageBytes [] (runFields done) (g + 3 + 3)) 64 len (by omega) (by omega) hn (by omega) hl W hp
   have Hf := Lib.hid hf
   clear h hp hf h1
   go_enter Tryz.func97, Tryz.ntmps97
   go_wp2_with fail
   refine Hf.out.mono ?_
   rintro e W1 ⟨rfl, hp1, ho1⟩
   obtain ⟨q1, q2, q3⟩ := HH.out.only ho1
   have e0 := pageBytes_field [] (runFields done) (g + 3) 64 len
   simp only [List.length_nil, Nat.zero_add, Nat.add_sub_cancel] at e0 hp1
   rw [e0] at hp1
   have hf2 := field_pg px bb n (g + 3) 0 (pageBytes [] (fieldL 64 len ++ runFields done) (g + 3)) 8 k (by omega) (by omega) hn (by omega) hk2 W1 hp1
   have Hf2 := Lib.hid hf2
   have Ho := Lib.hid ho1
   clear hp1 hf2 ho1 e0
   go_wp2_with fail
   refine Hf2.out.mono ?_
   rintro e W2 ⟨rfl, hp2, ho2⟩
   obtain ⟨r1, r2, r3⟩ := HH.out.only (Ho.out.trans ho2)
   go_wp2
   go_end0
   refine ⟨rfl, ⟨r1, HH.out.pg, HH.out.row, r2, r3, HH.out.nepx, HH.out.nebb, ?_⟩⟩
   have e0 := pageBytes_field [] (fieldL 64 len ++ runFields done) g 8 k
   simp only [List.length_nil, Nat.zero_add, Nat.add_sub_cancel] at e0 hp2
   rw [e0] at hp2
   have e1 : runFields (done ++ [(k, len)]) = fieldL 8 k ++ (fieldL 64 len ++ runFields done) := by rw [runFields_snoc]; simp [runField, hk1]
   rw [e1]
   have e2 : n - 4 - (fieldL 8 k ++ (fieldL 64 len ++ runFields done)).length = g := by simp [length_fieldL]; omega
   rw [e2]
   exact hp2
theorem enc_doer (p : Option Addr) (L : List (List UInt8)) (w : World) (pb px bb n : Nat) (hn : n ≤ 512) (hs : Strs w p L) (ha : allowedB L = true) (hsz : sizeL L ≤ n) : Doer 97 #[.pointer (some ⟨pb, 0, none⟩)] p L (EncI w pb px bb n) where
 call := fun args W => by simp [callFunc, Tryz.func97]; kernel_rfl
 drawn := fun done W k h => ⟨h.ext.trans (Ext.drewN W k), h.pg, h.row, h.var, h.lt, h.nepx, h.nebb, h.page.drewN k⟩
 reads := fun done W h => hs.ext h.ext
 step := fun done k len rest W hr h => by
   have hmem : (k, len) ∈ runsL L := by rw [hr]; simp
   have h1 := runs_pos L _ hmem
   have h2 := runs_count (runsL L) (runs_pos L)
   rw [flatRuns_runs, List.length_map] at h2
   have h3 := h2.2 _ hmem
   obtain ⟨s, hs1, hs2⟩ := runs_len_mem L _ hmem
   have h4 := allowed_mem ha hs1
   have h5 := allowed_count ha
   have h6 : fieldsL L = runFields (rest) ++ runFields (done ++ [(k, len)]) := by
     rw [fieldsL_runs, hr]; simp [runFields]
   have h7 := congrArg List.length h6
   rw [List.length_append] at h7
   unfold sizeL at hsz
   simp only at h1 h3 hs2
   exact Encode1_any w pb px bb n done k len hn h1 (by omega) (by omega) (by omega) W h
end Go.Proofs.YtifmbcjbccedfaaGreatDoor
namespace Go.Proofs.YtifmbcjbccedfaaGreatDoor
open Go.RowKit Dsd
theorem cell_new0' (w : World) (v : Value) (t : TypeId) (k : Nat) (hk : k = w.heap.size) : (w.alloc (.cells #[v] t)).cell? ⟨k, 0, none⟩ = some v := by subst hk; exact cell_new0 w v t
set_option maxRecDepth 100000 in
set_option maxHeartbeats 2000000 in
theorem Encode_ok (p : Option Addr) (cap m : Nat) (L : List (List UInt8)) (n : Nat) (hnn : n = 128 ∨ n = 256 ∨ n = 512) (h1 : isSizeB n = true) (h2 : allowedB L = true) (h3 : sizeL L ≤ n) (w : World) (hs : Strs w p L) (hm : L.length = m) (hcap : m ≤ cap) (hcm : cap ≤ maxLen) (hsm : Small L) :
   Calls Tryz.prog 50 #[.int .i64 n, .slice p m cap] w fun e w' => e = .returned (.tuple #[.string ⟨(wholeL n L.flatten (fieldsL L)).toArray⟩, .int .i64 0]) ∧ Ext w w' := by
 have hn4 : 4 ≤ n := by omega
 have hn5 : n ≤ 512 := by omega
 have Hs := Lib.hid hs
 have hL := hsm.1
 have hnp := newPage_any n hn4 hn5
 have Hnp := Lib.hid hnp
 have h3I : (sizeL L : Int) ≤ n := by omega
 clear hnp hs hnn
 go_enter Tryz.func50, Tryz.ntmps50
 go_wp2_with (first | (go_at_call 71; refine (isSize_any _ _).mono ?_; rintro e w' ⟨rfl, rfl⟩) | (go_at_call 82; refine (allowed_any _ _ _ L _ Hs.out hm hsm).mono ?_; rintro e w' ⟨rfl, rfl⟩) | (go_at_call 83; refine (Size_any _ _ _ L _ Hs.out hm hcap hcm hsm).mono ?_; rintro e w1 ⟨rfl, he1⟩) | (go_at_call 95; refine (Hnp.out _).mono ?_; rintro e w2 ⟨rfl, he2, hz2, hp2⟩))
 obtain ⟨bb, hbb⟩ : ∃ bb, bb = w1.heap.size := ⟨_, rfl⟩
 have hpw : pageBytes [] [] (n - 4) = List.replicate n 0 := by
   have e : n = (n - 4) + 4 := by omega
   conv => rhs; rw [e, ← List.replicate_append_replicate]
   simp [pageBytes]
 have hst : EncI w1 (bb + 2) (bb + 1) bb n [] (w2.alloc (.cells #[.pointer (some ⟨bb + 1, 0, none⟩)] 135)) := by
   refine ⟨he2.trans (Ext.alloc _ _), by omega, by omega, cell_new0' _ _ _ _ (by omega), by simp; omega, by omega, by omega, ?_⟩
   have := hp2.ext (Ext.alloc w2 (.cells #[.pointer (some ⟨bb + 1, 0, none⟩)] 135))
   rw [← hpw, ← hbb] at this
   exact this
 rw [← hbb]
 refine (runs_any _ _ p m cap L _ (enc_doer p L w1 (bb + 2) (bb + 1) bb n hn5 (Hs.out.ext he1) h2 h3) hm hcap hcm hsm _ hst).mono ?_
 rintro e w3 ⟨rfl, hI⟩
 have hsz : sumLen L + (fieldsL L).length + 4 ≤ n := by unfold sizeL at h3; omega
 have hpg := hI.page
 rw [← fieldsL_runs] at hpg
 have hpb : bb + 2 ≠ bb + 1 := by omega
 have hpb2 : bb + 2 ≠ bb := by omega
 have hb1 : w1.heap.size ≤ bb + 1 := by omega
 have hb2 : w1.heap.size ≤ bb := by omega
 have HW : Hid (∀ g, n = L.flatten.length + g + (fieldsL L).length + 4 → wholeL n L.flatten (fieldsL L) = L.flatten ++ List.replicate g 0 ++ fieldsL L ++ tailL L.flatten.length g) := Lib.hid (fun g hg => by
   unfold wholeL
   have : n - 4 - L.flatten.length - (fieldsL L).length = g := by omega
   simp only [this])
 obtain ⟨F, hF⟩ : ∃ F, F = fieldsL L := ⟨_, rfl⟩
 rw [← hF] at hpg hsz HW
 have hv3 := hI.var
 have hx3 := hI.ext
 have hl3 := hI.lt
 have hmL : m ≤ 1000000 := by omega
 clear hst hp2 hz2 hbb hpw hI he2 h3I h3
 go_wp2
 obtain ⟨wo, rfl⟩ : ∃ wo : World, wo = w3 := ⟨_, rfl⟩
 go_loopw [29] (fun i wi => ∃ k : Nat, k ≤ m ∧ i = .int .i64 k ∧ Ext w1 wi ∧ wi.cell? ⟨bb + 2, 0, none⟩ = some (.pointer (some ⟨bb + 1, 0, none⟩)) ∧ bb + 2 < wi.heap.size ∧
     Page wi (bb + 1) bb n (n - 4 - F.length) (L.take k).flatten.length (pageBytes (L.take k).flatten F (n - 4 - F.length - (L.take k).flatten.length))) (fun i _ => m - (intOf i).toNat)
 case atStart => exact ⟨0, Nat.zero_le _, rfl, hx3, hv3, hl3, hpg⟩
 case round =>
   obtain ⟨k, hk, rfl, hx, hv, hl, hp⟩ := hrel
   have hCs : (L.take k).flatten.length ≤ sumLen L := by rw [length_flatten_sum]; exact sumLen_take_le L k
   clear hpg hv3 hx3 hl3
   by_cases hlt : k < m
   · obtain ⟨b, off, rfl, hb, hc⟩ := (Hs.out.ext (he1.trans hx)).at k (by omega)
     have hck := hc k (by omega)
     have hfl := flatten_take L k (by omega)
     have hls : (L.take k).flatten.length + (L.getD k []).length ≤ sumLen L := by
       have := sumLen_take L k (by omega); rw [length_flatten_sum]; have h := sumLen_take_le L (k + 1); omega
     generalize hs' : L.getD k [] = s at *
     generalize hC : (L.take k).flatten = C at *
     obtain ⟨g, hg⟩ : ∃ g, n - 4 - F.length - C.length = s.length + g := ⟨n - 4 - F.length - C.length - s.length, by omega⟩
     rw [hg] at hp
     have hput := put_pg (bb + 1) bb n (n - 4 - F.length) C.length _ s (by omega) (by omega) hn5 wr hp
     rw [pageBytes_put] at hput
     have Hput := Lib.hid hput
     have Hfl := Lib.hid hfl
     have HO := Lib.hid (fun (W' : World) (o : Only (bb + 1) bb wr W') => (⟨o.ext hx hb1 hb2, (World.cell?_of_block (w := wr) (o.block (bb + 2) hl hpb hpb2)).trans hv, Nat.lt_of_lt_of_le hl o.size⟩ : Ext w1 W' ∧ W'.cell? ⟨bb + 2, 0, none⟩ = some (.pointer (some ⟨bb + 1, 0, none⟩)) ∧ bb + 2 < W'.heap.size))
     have Hg : Hid (n - 4 - F.length - (C ++ s).length = g) := Lib.hid (by simp; omega)
     have hltI : (k : Int) < m := by omega
     clear hc hput hp hfl hs' hC hg
     go_wp2_with (go_at_call 99; go_must (refine Hput.out.mono ?_; rintro e w4 ⟨rfl, hp4, ho4⟩))
     obtain ⟨q1, q2, q3⟩ := HO.out _ ho4
     go_roundw
     case rel => exact ⟨k + 1, by omega, by go_num, q1, q2, q3, by rw [Hfl.out, Hg.out]; simpa using hp4⟩
     case measure => simp [intOf]; omega
   · have hkm : L.take k = L := List.take_of_length_le (by omega)
     rw [hkm] at hp hCs
     obtain ⟨g, hg⟩ : ∃ g, n - 4 - F.length = L.flatten.length + g := ⟨n - 4 - F.length - L.flatten.length, by omega⟩
     have hd := done_pg (bb + 1) bb n (n - 4 - F.length) L.flatten.length _ (by omega) (by omega) hn4 hn5 wr hp
     rw [hg, Nat.add_sub_cancel_left, pageBytes_tail _ _ _ _ (by omega)] at hd
     have HWg := Lib.hid (HW.out g (by omega))
     have Hd := Lib.hid hd
     have HO := Lib.hid (fun (W' : World) (o : Only (bb + 1) bb wr W') => o.ext hx hb1 hb2)
     have hltI : ¬ (k : Int) < m := by omega
     clear hd hp hkm hCs hg
     go_wp2_with (go_at_call 100; go_must (refine Hd.out.mono ?_; rintro e w4 ⟨rfl, ho4⟩))
     go_ret2
     exact ⟨ret_tup (by have h := HWg.out; rw [hF] at h; rw [h]; simp) rfl, he1.trans (HO.out _ ho4)⟩
set_option maxRecDepth 100000 in
theorem Encode_any (p : Option Addr) (cap m : Nat) (L : List (List UInt8)) (size : Int) (w : World) (hs : Strs w p L) (hn : L.length = m) (hcap : m ≤ cap) (hcm : cap ≤ maxLen) (hm : Small L) :
   Calls Tryz.prog 50 #[.int .i64 size, .slice p m cap] w fun e w' => e = .returned (.tuple #[.string ⟨(encStr size L).toArray⟩, .int .i64 (encErr size L)]) ∧ Ext w w' := by
 by_cases h1 : isSizeB size = true
 · by_cases h2 : allowedB L = true
   · by_cases h3 : size < sizeL L
     · have HE : Hid (encErr size L = 8) := Lib.hid (by simp [encErr, h1, h2, h3])
       have HS : Hid (encStr size L = []) := Lib.hid (by simp [encStr, HE.out])
       go_enter Tryz.func50, Tryz.ntmps50
       go_wp2_with (first | (go_at_call 71; refine (isSize_any _ _).mono ?_; rintro e w' ⟨rfl, rfl⟩) | (go_at_call 82; refine (allowed_any _ _ _ L _ hs hn hm).mono ?_; rintro e w' ⟨rfl, rfl⟩) | (go_at_call 83; refine (Size_any _ _ _ L _ hs hn hcap hcm hm).mono ?_; rintro e w' ⟨rfl, he⟩))
       go_ret2
       exact ⟨ret_tup HS.out.symm HE.out.symm, he⟩
     · have HE : encErr size L = 0 := by simp [encErr, h1, h2]; omega
       have HS : encStr size L = wholeL size.toNat L.flatten (fieldsL L) := by simp [encStr, HE]
       obtain ⟨k, rfl, hk⟩ := isSize_nat h1
       rw [HE, HS, Int.toNat_natCast]
       exact Encode_ok p cap m L k hk h1 h2 (by omega) w hs hn hcap hcm hm
   · have h2' : allowedB L = false := by simpa using h2
     clear h2
     have HE : Hid (encErr size L = 2) := Lib.hid (by simp [encErr, h1, h2'])
     have HS : Hid (encStr size L = []) := Lib.hid (by simp [encStr, HE.out])
     go_enter Tryz.func50, Tryz.ntmps50
     go_wp2_with (first | (go_at_call 71; refine (isSize_any _ _).mono ?_; rintro e w' ⟨rfl, rfl⟩) | (go_at_call 82; refine (allowed_any _ _ _ L _ hs hn hm).mono ?_; rintro e w' ⟨rfl, rfl⟩))
     go_ret2
     exact ⟨ret_tup HS.out.symm HE.out.symm, Ext.refl _⟩
 · have h1' : isSizeB size = false := by simpa using h1
   clear h1
   have HE : Hid (encErr size L = 1) := Lib.hid (by simp [encErr, h1'])
   have HS : Hid (encStr size L = []) := Lib.hid (by simp [encStr, HE.out])
   go_enter Tryz.func50, Tryz.ntmps50
   go_wp2_with (go_at_call 71; refine (isSize_any _ _).mono ?_; rintro e w' ⟨rfl, rfl⟩)
   go_ret2
   exact ⟨ret_tup HS.out.symm HE.out.symm, Ext.refl _⟩
end Go.Proofs.YtifmbcjbccedfaaGreatDoor
namespace Go.Proofs.YtifmbcjbccedfaaGreatDoor
open Go.RowKit Dsd
def DecOut (size : Int) (d : List UInt8) (w : World) (e : Ending) (w' : World) : Prop :=
 Ext w w' ∧ ((∃ p cap L, e = .returned (.tuple #[.slice p L.length cap, .int .i64 0]) ∧ Strs w' p L ∧ Small L ∧ Enc size L d ∧ L.length ≤ cap ∧ cap ≤ maxLen ∧ w'.ownsRow w.heap.size 9 1 (.slice p L.length cap) L.length (L.map fun s => .string ⟨s.toArray⟩)) ∨
   (e = .returned (.tuple #[.slice none 0 0, .int .i64 (decErr size d)]) ∧ ∀ L, ¬ Enc size L d))
theorem decOut_no {size : Int} {d : List UInt8} {w w' : World} {c : Int} (h : Ext w w') (hc : c = decErr size d) (hn : ∀ L, ¬ Enc size L d) : DecOut size d w (.returned (.tuple #[.slice none 0 0, .int .i64 c])) w' := by
 subst hc; exact ⟨h, .inr ⟨rfl, hn⟩⟩
theorem enc_not_size {size : Int} {d : List UInt8} (h : isSizeB size = false) (L : List (List UInt8)) : ¬ Enc size L d := fun hL => by
 have := (encErr_zero hL.1).1; rw [h] at this; cases this
end Go.Proofs.YtifmbcjbccedfaaGreatDoor
namespace Go.Proofs.YtifmbcjbccedfaaGreatDoor
open Go.RowKit Dsd
theorem twoAt_int (l : List UInt8) (i : Int) (h0 : 0 ≤ i) (hi : i + 1 < l.length) (hs : l.length ≤ 1000000) (w : World) :
   Calls Tryz.prog 73 #[.string ⟨l.toArray⟩, .int .i64 i] w fun e w' => e = .returned (.int .i64 (two l i.toNat : Nat)) ∧ ∃ n, w' = w.drewN n := by
 obtain ⟨i, rfl⟩ := Int.eq_ofNat_of_zero_le h0
 rw [Int.toNat_natCast]
 exact twoAt_any l i (by omega) hs w
set_option maxRecDepth 100000 in
set_option maxHeartbeats 2000000 in
theorem Decode_main (n : Nat) (h128 : 128 ≤ n) (h512 : n ≤ 512) (hsz : isSizeB n = true) (d : List UInt8) (hd : d.length = n) (hu : (d == List.replicate d.length 0) = false) (w : World) :
   Calls Tryz.prog 33 #[.int .i64 n, .string ⟨d.toArray⟩] w (DecOut n d w) := by
 have hE : Hid (decErr n d = 11) := Lib.hid (by unfold decErr; rw [hsz, hu, hd]; simp)
 have hC : checkErr n d = 0 := by unfold checkErr; rw [hu, hd]; simp
 have hdl : d.length ≤ 1000000 := by omega
 have hch := check_any n d hdl
 rw [hC] at hch
 have Hch := Lib.hid hch
 have Hd := Lib.hid hd
 have t1 := twoAt_int d ((n : Int) - 4) (by omega) (by omega) hdl
 have t2 := twoAt_int d ((n : Int) - 2) (by omega) (by omega) hdl
 have e1 : ((n : Int) - 4).toNat = n - 4 := by omega
 have e2 : ((n : Int) - 2).toNat = n - 2 := by omega
 rw [e1] at t1
 rw [e2] at t2
 have T1 := Lib.hid t1
 have T2 := Lib.hid t2
 have b1 := two_lt d (n - 4)
 have b2 := two_lt d (n - 2)
 have i1 : IntKind.i64.wrap ((n : Int) - 4) = n - 4 := IntWalk.i64_in _ (by omega)
 have i2 : IntKind.i64.wrap ((n : Int) - 2) = n - 2 := IntWalk.i64_in _ (by omega)
 have hen : Hid (two d (n - 4) + two d (n - 2) = endOf d n) := Lib.hid rfl
 generalize two d (n - 4) = u1 at *
 generalize two d (n - 2) = u2 at *
 have i3 : IntKind.i64.wrap ((u1 : Int) + u2) = ((u1 + u2 : Nat) : Int) := by rw [IntWalk.i64_in _ (by omega)]; omega
 obtain ⟨S, hS⟩ : ∃ S, S = w.heap.size := ⟨_, rfl⟩
 have HS := Lib.hid hS
 clear hch t1 t2 e1 e2 hd hu hC
 go_enter Tryz.func33, Tryz.ntmps33
 go_wp2_with (first | (go_at_call 71; refine (isSize_any _ _).mono ?_; rintro e w' ⟨rfl, rfl⟩) | (go_at_call 72; refine (Hch.out _).mono ?_; rintro e w1 ⟨rfl, hq1⟩))
 have hs1 : w1.heap.size = S + 2 := by obtain ⟨k, rfl⟩ := hq1; rw [hS]; simp
 have he1 := Ext.of_drawn hq1
 have hw1 : Ext w w1 := ((Ext.alloc w _).trans (Ext.alloc _ _)).trans he1
 have bS : Blk w1 S (.cells #[.int .i64 n] 3) := he1.blk _ _ (Blk.alloc (by rw [hS]; exact Blk.new w _) _)
 have bD : Blk w1 (S + 1) (.cells #[.string ⟨d.toArray⟩] 9) := he1.blk _ _ (by
   have := Blk.new (w.alloc (.cells #[.int .i64 n] 3)) (.cells #[.string ⟨d.toArray⟩] 9)
   rw [hS]; simpa using this)
 have c1 := Blk.cell bS
 have c2 := Blk.cell bD
 clear hq1 he1
 rw [← hS]
 clear hS
 go_quiet ((go_at_call 73; first | with_reducible exact Calls.quiet_of (T1.out _) | with_reducible exact Calls.quiet_of (T2.out _)))
 clear i1 i2
 obtain ⟨w2, hq2⟩ : ∃ w2, w2 = w1.drewN nq := ⟨_, rfl⟩
 have he2 := Ext.of_drawn ⟨nq, hq2⟩
 have bS := he2.blk _ _ bS
 have bD := he2.blk _ _ bD
 have c1 := Blk.cell bS
 have c2 := Blk.cell bD
 have hs2 : w2.heap.size = S + 2 := by rw [hq2]; simpa using hs1
 rw [← hq2]
 have hw2 := hw1.trans he2
 clear hs1 hw1 he2 hq2
 have hlt1 : S < w2.heap.size := by omega
 have hlt2 : S + 1 < w2.heap.size := by omega
 go_wp2
 have hst0 : TakeSt S (S + 2 + 1) (S + 2 + 1 + 1) (S + 2) n d 0 (.slice (some ⟨S + 2, 0, none⟩) 0 0) [] (((w2.alloc (.cells #[] 9)).alloc (.cells #[.slice (some ⟨S + 2, 0, none⟩) 0 0] 30)).alloc (.cells #[.int .i64 0] 3)) := by
   have z1 : (w2.alloc (.cells #[] 9)).heap.size = S + 2 + 1 := by simp [hs2]
   have z2 : ((w2.alloc (.cells #[] 9)).alloc (.cells #[.slice (some ⟨S + 2, 0, none⟩) 0 0] 30)).heap.size = S + 2 + 1 + 1 := by simp [hs2]
   refine ⟨Blk.alloc (Blk.alloc (Blk.alloc bS _) _) _, Blk.alloc (Blk.alloc (Blk.alloc bD _) _) _, ?_, ?_, ?_, by omega, by omega, by omega, by omega, ?_, by simp, rfl, by omega, by simp, by simp⟩
   · have := Blk.alloc (Blk.new (w2.alloc (.cells #[] 9)) (.cells #[.slice (some ⟨S + 2, 0, none⟩) 0 0] 30)) (.cells #[.int .i64 0] 3)
     rw [z1] at this; exact this
   · have := Blk.new ((w2.alloc (.cells #[] 9)).alloc (.cells #[.slice (some ⟨S + 2, 0, none⟩) 0 0] 30)) (.cells #[.int .i64 0] 3)
     rw [z2] at this; exact this
   · have := ((World.ownsRow_made (base := S + 2) (e := 9) (size := 1) w2 #[] 0 (by rw [hs2]; exact Nat.le_refl _) (by simp) rfl).alloc (.cells #[.slice (some ⟨S + 2, 0, none⟩) 0 0] 30)).alloc (.cells #[.int .i64 0] 3)
     rw [hs2] at this
     simpa [strRow] using this
   · simp [hs2]
 have hw3 : Ext w (((w2.alloc (.cells #[] 9)).alloc (.cells #[.slice (some ⟨S + 2, 0, none⟩) 0 0] 30)).alloc (.cells #[.int .i64 0] 3)) := hw2.trans (((Ext.alloc _ _).trans (Ext.alloc _ _)).trans (Ext.alloc _ _))
 rw [← Int.natCast_add]
 have hEn := hen.out
 have b3 : u1 + u2 < 131072 := by omega
 clear b1 b2 hen i3 c1 c2 bS bD hs2 hw2 hlt1 hlt2
 generalize hE2 : u1 + u2 = E at *
 have HEn := Lib.hid hEn
 clear hEn hE2
 generalize (((w2.alloc (.cells #[] 9)).alloc (.cells #[.slice (some ⟨S + 2, 0, none⟩) 0 0] 30)).alloc (.cells #[.int .i64 0] 3)) = w3 at *
 obtain ⟨bo, hbo⟩ : ∃ bo, bo = S + 2 + 1 := ⟨_, rfl⟩
 obtain ⟨ba, hba⟩ : ∃ ba, ba = S + 2 + 1 + 1 := ⟨_, rfl⟩
 obtain ⟨q, hq⟩ : ∃ q, q = S + 2 := ⟨_, rfl⟩
 rw [← hba, ← hbo, ← hq]
 rw [← hba, ← hbo, ← hq] at hst0
 clear hbo hba hq
 have Hw3 := Lib.hid hw3
 have Hst0 := Lib.hid hst0
 clear hw3 hst0
 go_loopw [10, 12] (fun len left wr => ∃ (x : Int) (pend a : Nat) (v : Value) (out : List (List UInt8)), left = .int .i64 x ∧ len = .int .i64 pend ∧ -3 ≤ x ∧ x ≤ n - 7 ∧ pend < 65536 ∧ TakeSt S bo ba q n d a v out wr ∧ Ext w wr ∧
     ∀ L, Enc n L d → PInv (endOf d n) L x pend (out.map List.length)) (fun _ left _ => (intOf left + 3).toNat)
 case atStart => exact ⟨n - 7, 0, 0, _, [], by congr 1; omega, rfl, by omega, by omega, by omega, Hst0.out, Hw3.out, fun L hL => pinv_start hL h512⟩
 case round =>
   obtain ⟨x, pend, a, v, out, rfl, rfl, hx1, hx2, hpd, hst, hext, hpi⟩ := hrel
   have c1 := Blk.cell hst.size
   have c2 := Blk.cell hst.data
   have c3 := Blk.cell hst.var
   have Hst := Lib.hid hst
   have Hpi := Lib.hid hpi
   have hsum : (out.map List.length).sum = a := by rw [← hst.len, length_flatten_eq]; rfl
   have Hsum := Lib.hid hsum
   clear hst hpi hsum
   by_cases hxe : (E : Int) ≤ x
   · obtain ⟨x, rfl⟩ := Int.eq_ofNat_of_zero_le (show 0 ≤ x by omega)
     have t3 := twoAt_int d ((x : Int) + 1) (by omega) (by have := Hd.out; omega) hdl
     have e1 : ((x : Int) + 1).toNat = x + 1 := by omega
     rw [e1] at t3
     have T3 := Lib.hid t3
     have hu3 := two_lt d (x + 1)
     have hb8 := byt_lt d x
     have hxd : (x : Int) < d.length := by have := Hd.out; omega
     have hExt : Hid (endOf d n ≤ x) := Lib.hid (by have := HEn.out; omega)
     have Hmany : Hid (0 < pend → ∀ L, Enc n L d → byt d x = 8 ∧ 1 ≤ two d (x + 1) ∧ 1 ≤ pend ∧ (out.map List.length).sum + two d (x + 1) * pend ≤ n ∧ PInv (endOf d n) L ((x : Int) - 3) 0 (out.map List.length ++ List.replicate (two d (x + 1)) pend)) :=
       Lib.hid fun hp L hL => pinv_many hL h512 hp (Hpi.out L hL)
     have Hnext : Hid (pend = 0 → ∀ L, Enc n L d → (byt d x = 64 ∧ 1 ≤ two d (x + 1) ∧ PInv (endOf d n) L ((x : Int) - 3) (two d (x + 1)) (out.map List.length)) ∨
         (byt d x = 0 ∧ 1 ≤ two d (x + 1) ∧ (out.map List.length).sum + two d (x + 1) ≤ n ∧ PInv (endOf d n) L ((x : Int) - 3) 0 (out.map List.length ++ List.replicate 1 (two d (x + 1))))) :=
       Lib.hid fun hp L hL => by subst hp; exact pinv_next hL h512 hExt.out (Hpi.out L hL)
     clear t3 e1
     generalize hu : two d (x + 1) = u at *
     clear hu
     by_cases hp : 0 < pend
     · have hpI : (0 : Int) < pend := by omega
       by_cases hb : byt d x = 8
       · have hbI : ((byt d x : Int) == 8) = true := by simp [hb]
         go_wp2_with (first | (go_at_call 73; refine (T3.out _).mono ?_; rintro e w4 ⟨rfl, nq4, rfl⟩))
         refine (take_any S bo ba q n d Hd.out h512 a v out u pend (by omega) (by omega) _ (Hst.out.ext (Ext.drewN wr nq4))).mono ?_
         rintro e w5 ⟨hbel, ⟨rfl, v2, out2, hst2, hml2⟩ | ⟨rfl, hno⟩⟩
         · have HX5 := Lib.hid (Ext.trans' (hext.trans (Ext.drewN wr nq4)) (Below.mono hbel (by rw [← HS.out]; omega)))
           have Hst2 := Lib.hid hst2
           have Hml2 := Lib.hid hml2
           have d1 := Blk.cell hst2.size
           have d2 := Blk.cell hst2.data
           clear c1 c2 c3 hst2 hml2 hbel
           go_wp2_with fail
           go_roundw
           case rel => exact ⟨x - 3, 0, a + u * pend, v2, out2, by go_num, rfl, by omega, by omega, by omega, Hst2.out, HX5.out, fun L hL => by rw [Hml2.out]; exact (Hmany.out hp L hL).2.2.2.2⟩
           case measure => simp [intOf]; omega
         · have HX5 := Lib.hid (Ext.trans' (hext.trans (Ext.drewN wr nq4)) (Below.mono hbel (by rw [← HS.out]; omega)))
           have Hno := Lib.hid hno
           clear c1 c2 c3 hbel hno
           go_wp2_with fail
           go_ret2
           exact decOut_no HX5.out hE.out.symm (fun L hL => by
             obtain ⟨_, h1, h2, h3, _⟩ := Hmany.out hp L hL
             rw [Hsum.out] at h3
             exact Hno.out h1 h2 h3)
       · have hbI : ((byt d x : Int) == 8) = false := by simp; omega
         go_wp2_with (first | (go_at_call 73; refine (T3.out _).mono ?_; rintro e w4 ⟨rfl, nq4, rfl⟩))
         go_ret2
         exact decOut_no (hext.trans (Ext.drewN wr _)) hE.out.symm (fun L hL => hb (Hmany.out hp L hL).1)
     · have hp0 : pend = 0 := by omega
       subst hp0
       by_cases hb : byt d x = 64
       · have hbI : ((byt d x : Int) == 64) = true := by simp [hb]
         go_wp2_with (first | (go_at_call 73; refine (T3.out _).mono ?_; rintro e w4 ⟨rfl, nq4, rfl⟩))
         go_roundw
         case rel => exact ⟨x - 3, u, a, v, out, by go_num, rfl, by omega, by omega, by omega, Hst.out.ext (Ext.drewN wr _), hext.trans (Ext.drewN wr _), fun L hL => by
           rcases Hnext.out trivial L hL with h | h
           · exact h.2.2
           · omega⟩
         case measure => simp [intOf]; omega
       · have hbI : ((byt d x : Int) == 64) = false := by simp; omega
         by_cases hb0 : byt d x = 0
         · have hb0I : ((byt d x : Int) == 0) = true := by simp [hb0]
           go_wp2_with (first | (go_at_call 73; refine (T3.out _).mono ?_; rintro e w4 ⟨rfl, nq4, rfl⟩))
           refine (take_any S bo ba q n d Hd.out h512 a v out 1 u (by omega) (by omega) _ (Hst.out.ext (Ext.drewN wr nq4))).mono ?_
           rintro e w5 ⟨hbel, ⟨rfl, v2, out2, hst2, hml2⟩ | ⟨rfl, hno⟩⟩
           · have HX5 := Lib.hid (Ext.trans' (hext.trans (Ext.drewN wr nq4)) (Below.mono hbel (by rw [← HS.out]; omega)))
             have Hst2 := Lib.hid hst2
             have Hml2 := Lib.hid hml2
             have d1 := Blk.cell hst2.size
             have d2 := Blk.cell hst2.data
             clear c1 c2 c3 hst2 hml2 hbel
             go_wp2_with fail
             go_roundw
             case rel => exact ⟨x - 3, 0, a + 1 * u, v2, out2, by go_num, rfl, by omega, by omega, by omega, Hst2.out, HX5.out, fun L hL => by
               rw [Hml2.out]
               rcases Hnext.out trivial L hL with h | h
               · omega
               · exact h.2.2.2⟩
             case measure => simp [intOf]; omega
           · have HX5 := Lib.hid (Ext.trans' (hext.trans (Ext.drewN wr nq4)) (Below.mono hbel (by rw [← HS.out]; omega)))
             have Hno := Lib.hid hno
             clear c1 c2 c3 hbel hno
             go_wp2_with fail
             go_ret2
             exact decOut_no HX5.out hE.out.symm (fun L hL => by
               rcases Hnext.out trivial L hL with h | h
               · omega
               · obtain ⟨_, h2, h3, _⟩ := h
                 rw [Hsum.out] at h3
                 exact Hno.out (by omega) h2 (by omega))
         · have hb0I : ((byt d x : Int) == 0) = false := by simp; omega
           go_wp2_with (first | (go_at_call 73; refine (T3.out _).mono ?_; rintro e w4 ⟨rfl, nq4, rfl⟩))
           go_ret2
           exact decOut_no (hext.trans (Ext.drewN wr _)) hE.out.symm (fun L hL => by
             rcases Hnext.out trivial L hL with h | h
             · exact hb h.1
             · exact hb0 h.1)
   · have hxI : decide ((E : Int) ≤ x) = false := by simpa using hxe
     have HEQ : Hid (∀ L, Enc n L d → out = L) := Lib.hid fun L hL => pinv_out hL h512 (by have := HEn.out; omega) (Hpi.out L hL) Hst.out.flat Hst.out.len
     obtain ⟨p', cp, hv, hcs, hcp1, hcp2⟩ := own_cells Hst.out.row
     have hsl : (strRow out).length = out.length := by simp [strRow]
     rw [hsl] at hv hcp1
     have Hsq : Hid (Strs wr p' out) := Lib.hid hcs
     have HSM : Hid (Small out) := Lib.hid ⟨by have := Hst.out.pos; have := Hst.out.le; omega, Hst.out.small⟩
     subst hv
     clear hcs hsl
     by_cases h1 : encErr n out = 0
     · have h1' : ((encErr n out) != 0) = false := by simp [h1]
       by_cases h2 : encStr n out = d
       · have h2' : (encStr n out == d) = true := by simp [h2]
         have HOK : Hid (Enc n out d) := Lib.hid ⟨h1, h2⟩
         have hen := Encode_any p' cp out.length out n
         generalize encErr n out = ee at *
         generalize encStr n out = es at *
         have Hen := Lib.hid hen
         clear hen h1 h2
         go_wp2_with (first | (go_at_call 50; refine (Hen.out _ Hsq.out rfl hcp1 hcp2 HSM.out).mono ?_; rintro e w3 ⟨rfl, he3⟩; have k1 := Blk.cell (he3.blk _ _ Hst.out.size); have k2 := Blk.cell (he3.blk _ _ Hst.out.data); have k3 := Blk.cell (he3.blk _ _ Hst.out.var)))
         go_ret2
         exact ⟨hext.trans he3, .inl ⟨p', cp, out, rfl, Hsq.out.ext he3, HSM.out, HOK.out, hcp1, hcp2, own_le (own_ext Hst.out.row he3) (by have := Hst.out.qS; rw [← HS.out]; omega)⟩⟩
       · have h2' : (encStr n out == d) = false := by simpa using h2
         have HNO : Hid (∀ L, ¬ Enc n L d) := Lib.hid fun L hL => by have := HEQ.out L hL; subst this; exact h2 hL.2
         have hen := Encode_any p' cp out.length out n
         generalize encErr n out = ee at *
         generalize encStr n out = es at *
         have Hen := Lib.hid hen
         clear hen h1 h2
         go_wp2_with (first | (go_at_call 50; refine (Hen.out _ Hsq.out rfl hcp1 hcp2 HSM.out).mono ?_; rintro e w3 ⟨rfl, he3⟩; have k1 := Blk.cell (he3.blk _ _ Hst.out.size); have k2 := Blk.cell (he3.blk _ _ Hst.out.data); have k3 := Blk.cell (he3.blk _ _ Hst.out.var)))
         go_ret2
         exact decOut_no (hext.trans he3) hE.out.symm HNO.out
     · have h1' : ((encErr n out) != 0) = true := by simpa using h1
       have HNO : Hid (∀ L, ¬ Enc n L d) := Lib.hid fun L hL => by have := HEQ.out L hL; subst this; exact h1 hL.1
       have hen := Encode_any p' cp out.length out n
       generalize encErr n out = ee at *
       generalize encStr n out = es at *
       have Hen := Lib.hid hen
       clear hen h1
       go_wp2_with (first | (go_at_call 50; refine (Hen.out _ Hsq.out rfl hcp1 hcp2 HSM.out).mono ?_; rintro e w3 ⟨rfl, he3⟩; have k1 := Blk.cell (he3.blk _ _ Hst.out.size); have k2 := Blk.cell (he3.blk _ _ Hst.out.data); have k3 := Blk.cell (he3.blk _ _ Hst.out.var)))
       go_ret2
       exact decOut_no (hext.trans he3) hE.out.symm HNO.out
theorem decErr_check {size : Int} {d : List UInt8} (h : isSizeB size = true) (h2 : checkErr size d ≠ 0) : decErr size d = checkErr size d := by
 unfold decErr checkErr at *
 rw [h]
 simp only [Bool.true_eq_false, if_false]
 split
 · rfl
 · rename_i h3
   rw [if_neg h3] at h2
   split
   · rfl
   · rename_i h4; rw [if_neg h4] at h2; exact absurd rfl h2
set_option maxRecDepth 100000 in
theorem Decode_any (size : Int) (d : List UInt8) (hd : d.length ≤ 1000000) (w : World) :
   Calls Tryz.prog 33 #[.int .i64 size, .string ⟨d.toArray⟩] w (DecOut size d w) := by
 by_cases h1 : isSizeB size = true
 · obtain ⟨n, rfl, hn⟩ := isSize_nat h1
   by_cases h2 : checkErr n d = 0
   · have h3 : d.length = n := by
       unfold checkErr at h2; split at h2
       · cases h2
       · omega
     have h4 : (d == List.replicate d.length 0) = false := by
       unfold checkErr at h2; rw [if_neg (by simp [h3])] at h2
       cases h : d == List.replicate d.length 0 with
       | false => rfl
       | true => rw [h] at h2; cases h2
     exact Decode_main n (by omega) (by omega) h1 d h3 h4 w
   · have HE : Hid (checkErr n d = decErr n d) := Lib.hid (decErr_check h1 h2).symm
     have HN : Hid (∀ L, ¬ Enc n L d) := Lib.hid fun L hL => by
       have a1 := enc_length hL
       have a2 := enc_used (by omega) (by omega) hL
       apply h2; unfold checkErr; rw [if_neg (by omega), a2]; rfl
     have hch := check_any n d hd
     have h2' : (checkErr n d != 0) = true := by simpa using h2
     generalize checkErr n d = ce at *
     have Hch := Lib.hid hch
     clear hch h2
     go_enter Tryz.func33, Tryz.ntmps33
     go_wp2_with (first | (go_at_call 71; refine (isSize_any _ _).mono ?_; rintro e w' ⟨rfl, rfl⟩) | (go_at_call 72; refine (Hch.out _).mono ?_; rintro e w1 ⟨rfl, hq1⟩; have he1 := Lib.hid (((Ext.alloc w _).trans (Ext.alloc _ _)).trans (Ext.of_drawn hq1)); clear hq1))
     go_ret2
     exact decOut_no he1.out HE.out HN.out
 · have h1' : isSizeB size = false := by simpa using h1
   have HE : Hid (decErr size d = 1) := Lib.hid (by unfold decErr; rw [if_pos h1'])
   have HN : Hid (∀ L, ¬ Enc size L d) := Lib.hid (enc_not_size h1')
   clear h1
   go_enter Tryz.func33, Tryz.ntmps33
   go_wp2_with (first | (go_at_call 71; refine (isSize_any _ _).mono ?_; rintro e w' ⟨rfl, rfl⟩))
   go_ret2
   exact decOut_no ((Ext.alloc w _).trans (Ext.alloc _ _)) HE.out.symm HN.out
end Go.Proofs.YtifmbcjbccedfaaGreatDoor
