/- A part of the proof. -/
import Derived.Test.YtifmbcjbccedfaaGreatDoorCA
import Derived.Test.YtifmbcjbccedfaaGreatDoorW21
import Derived.Lib.AppendStr
set_option linter.unusedSimpArgs false
set_option linter.unusedVariables false
namespace Dsd
open Go
def bC (l : List UInt8) : List Value := l.map fun x => Value.int .u8 ((x.toNat : Nat) : Int)
theorem bC_app (a b : List UInt8) : bC (a ++ b) = bC a ++ bC b := by simp [bC]
theorem bC_len (a : List UInt8) : (bC a).length = a.length := by simp [bC]
theorem bC_one (l : List UInt8) : ∀ u ∈ bC l, u.oneCell' = true := by
 intro u hu
 simp only [bC, List.mem_map] at hu
 obtain ⟨_, _, rfl⟩ := hu
 rfl
theorem bC_str (l : List UInt8) : Lib.strCells ⟨l.toArray⟩ = bC l := by simp [Lib.strCells, bC]
end Dsd
namespace Go.Proofs.YtifmbcjbccedfaaGreatDoor
open Go.RowKit Dsd
theorem infoByteA : (Tryz.prog.info? 5).map (fun i => (i.zero, i.size, i.bytes)) = some (some (.int .u8 0), 1, 1) := by kernel_rfl
theorem own_of_blk {w : World} {b B n k : Nat} {E : TypeId} {xs : List Value} (h : Blk w b (.cells xs.toArray E)) (hB : B ≤ b) (hn : xs.length = n * k) (hm : n ≤ maxLen) : w.ownsRow B E k (.slice (some ⟨b, 0, none⟩) n n) n xs :=
 ⟨hn, .inr ⟨b, n, xs.toArray, rfl, hB, h, Nat.le_refl _, hm, by simpa using hn, by rw [List.take_of_length_le (by simp [hn])]⟩⟩
theorem u8_nat (x : Nat) (h : x < 256) : (UInt8.ofNat x).toNat = x := by rw [UInt8.toNat_ofNat']; exact Nat.mod_eq_of_lt h
theorem four_cells (n : Nat) (hn : n ≤ 16777216) : #[Value.int .u8 ((n : Int) % 256), .int .u8 ((n : Int) / 256 % 256), .int .u8 ((n : Int) / 65536 % 256), .int .u8 ((n : Int) / 16777216)] = (bC (fourL n)).toArray := by
 unfold bC fourL
 simp only [List.map_cons, List.map_nil]
 rw [u8_nat _ (by omega), u8_nat _ (by omega), u8_nat _ (by omega), u8_nat _ (by omega)]
 have h1 : ((n % 256 : Nat) : Int) = (n : Int) % 256 := by omega
 have h2 : ((n / 256 % 256 : Nat) : Int) = (n : Int) / 256 % 256 := by omega
 have h3 : ((n / 65536 % 256 : Nat) : Int) = (n : Int) / 65536 % 256 := by omega
 have h4 : ((n / 65536 / 256 % 256 : Nat) : Int) = (n : Int) / 16777216 := by omega
 rw [h1, h2, h3, h4]
set_option maxRecDepth 100000 in
theorem fourB_any (n : Nat) (hn : n ≤ 16777216) (w : World) :
   Calls Tryz.prog 92 #[.int .i64 n] w fun e w' => ∃ b, e = .returned (.slice (some ⟨b, 0, none⟩) 4 4) ∧ Blk w' b (.cells (bC (fourL n)).toArray 5) ∧ Ext w w' ∧ w.heap.size ≤ b := by
 have HE := Lib.hid (four_cells n hn)
 go_enter Tryz.func92, Tryz.ntmps92
 go_wp2
 go_ret
 exact ⟨w.heap.size, rfl, by rw [← HE.out]; exact Blk.new w _, Ext.alloc _ _, Nat.le_refl _⟩
def encNE (size : Int) (n : Nd) : Int := if (isSizeB size && nodeB n) = false then 1 else if size < sizeNd n then 8 else 0
def encNS (size : Int) (n : Nd) : List UInt8 := if encNE size n = 0 then encN size n else []
theorem encN_err {size : Int} {n : Nd} {c : Int} (h : encNE size n = c) (hc : c ≠ 0) : encNS size n = [] := by unfold encNS; rw [h, if_neg hc]
end Go.Proofs.YtifmbcjbccedfaaGreatDoor
namespace Dsd
theorem formGo_step {L : List Ent} {k : Nat} (h : k < L.length) : formGo (keyBefore L k) (L.drop k) = [UInt8.ofNat (frontAt L k), UInt8.ofNat ((entAt L k).1.length - frontAt L k)] ++ (entAt L k).1.drop (frontAt L k) ++ fourL (entAt L k).2.toNat ++ formGo (keyBefore L (k + 1)) (L.drop (k + 1)) := by
 rw [formGo_drop h, frontAt_eq]
 have e : keyBefore L (k + 1) = (entAt L k).1 := by simp [keyBefore]
 rw [e]
end Dsd
namespace Go.Proofs.YtifmbcjbccedfaaGreatDoor
open Go.RowKit Dsd
theorem blk_grownT {w w' : World} {b B k n : Nat} {cs : Array Value} {t E : TypeId} {v : Value} {xs : List Value} (h : Blk w b (.cells cs t)) (hne : t ≠ E) (ho : w.ownsRow B E k v n xs) (hg : w.grownBy w' v.ownBlock) : Blk w' b (.cells cs t) := by
 refine Blk.grown h hg fun e => ?_
 obtain ⟨_, ⟨rfl, _⟩ | ⟨g, cap, cur, rfl, _, hb, _⟩⟩ := ho
 · cases e
 · have e2 : g = b := by simpa [Value.ownBlock] using e
   subst e2
   have := (Eq.symm h).trans hb
   simp at this
   exact hne this.2
theorem run_appS (w : World) {B n : Nat} {v : Value} {xs : List Value} (hown : w.ownsRow B 5 1 v n xs) (s : List UInt8) (hn : n + s.length ≤ 1000000) (hB : B ≤ w.heap.size) :
   ∃ v' w', (Builtin.append_ #[109, 9] 109 #[v, .string ⟨s.toArray⟩]).run Tryz.prog w = .ok v' w' ∧ w'.ownsRow B 5 1 v' (n + s.length) (xs ++ bC s) ∧ w.grownBy w' v.ownBlock := by
 obtain ⟨i0, hi, hz0, hz1, hz2⟩ := info_parts infoByteA
 have hs : (⟨s.toArray⟩ : ByteArray).size = s.length := by simp [ByteArray.size]
 obtain ⟨v', w', h1, h2, h3, _⟩ := Lib.run_append_own_string (P := Tryz.prog) w B 109 9 109 5 i0 Tryz.underlying109 Tryz.underlying9 hi hz0 hz1 hz2 v n xs hown ⟨s.toArray⟩ (by rw [hs]; unfold maxLen; omega) (by rw [hs]; omega) hB
 rw [hs, bC_str] at h2
 exact ⟨v', w', h1, h2, h3⟩
theorem run_appB (w : World) {B n b m : Nat} {v : Value} {xs : List Value} (hown : w.ownsRow B 5 1 v n xs) {l : List UInt8} (hb : Blk w b (.cells (bC l).toArray 5)) (hl : l.length = m) (hn : n + m ≤ 1000000) (hB : B ≤ w.heap.size) :
   ∃ v' w', (Builtin.append_ #[109, 109] 109 #[v, .slice (some ⟨b, 0, none⟩) m m]).run Tryz.prog w = .ok v' w' ∧ w'.ownsRow B 5 1 v' (n + m) (xs ++ bC l) ∧ w.grownBy w' v.ownBlock := by
 obtain ⟨i0, hi, hz0, hz1, hz2⟩ := info_parts infoByteA
 obtain ⟨v', w', h1, h2, h3, _⟩ := run_append_own (P := Tryz.prog) w B 109 109 5 i0 (.int .u8 0) 1 1 Tryz.underlying109 hi hz0 hz1 hz2 rfl (by decide) v n xs hown ⟨b, 0, none⟩ m m (bC l) (by rw [bC_len, hl]; omega) (fun j u hj => by rw [addr_add]; exact Blk.val hb _ _ (by simpa using hj)) (bC_one l) (by unfold maxLen; omega) (by omega) hB
 exact ⟨v', w', h1, h2, h3⟩
theorem conv_row {w : World} {B b cap : Nat} {l : List UInt8} (h : w.ownsRow B 5 1 (.slice (some ⟨b, 0, none⟩) l.length cap) l.length (bC l)) : (convert 109 9 (.slice (some ⟨b, 0, none⟩) l.length cap)).run Tryz.prog w = .ok (.string ⟨l.toArray⟩) w := by
 refine run_bytes_string w _ _ 5 b 0 cap l Tryz.underlying109 Tryz.underlying5 Tryz.underlying9 fun i hi => ?_
 obtain ⟨q, c, hq, hc, _⟩ := own_cells h
 simp only [Value.slice.injEq] at hq
 obtain ⟨rfl, _⟩ := hq
 rcases hc with hc | ⟨b', o', hq, _, hc⟩
 · have := congrArg List.length hc; rw [bC_len] at this; simp at this; subst this; simp at hi
 · simp only [Option.some.injEq, Addr.mk.injEq, and_true] at hq
   obtain ⟨rfl, rfl⟩ := hq
   rw [hc i (by rw [bC_len]; exact hi)]
   simp [bC, byt, List.getD, hi]
set_option maxRecDepth 100000 in
set_option maxHeartbeats 4000000 in
theorem EncodeN_any (size : Int) (q : Option Addr) (c : Nat) (n : Nd) (w : World) (h : Nents w q n.ents) (hl : n.ents.length ≤ 1000000) :
   Calls Tryz.prog 49 #[.int .i64 size, ndV n q c] w fun e w' => e = .returned (.tuple #[.string ⟨(encNS size n).toArray⟩, .int .i64 (encNE size n)]) ∧ Ext w w' := by
 have HZ := Lib.hid (fun W => isSizeN_any size W)
 have HP := Lib.hid (fun W (e : Ext w W) => plainN_any q c n W (h.ext e) hl)
 have HSz := Lib.hid (fun W (e : Ext w W) => SizeN_any q c n W (h.ext e) hl)
 have hb := Blk.new w (.cells #[.int .i64 n.level, .int .i64 n.next, .slice q n.ents.length c] 26)
 have HR : Hid (encNE size n = if (isSizeB size && nodeB n) = false then 1 else if size < sizeNd n then 8 else 0) := Lib.hid rfl
 cases hz : isSizeB size
 · rw [hz] at HZ HR
   have HS := Lib.hid (encN_err (size := size) (n := n) (c := 1) (by rw [HR.out]; rfl) (by decide))
   clear hz
   unfold ndV
   go_enter Tryz.func49, Tryz.ntmps49
   go_wp2_with (go_at_call 67; refine (HZ.out _).mono ?_; rintro e w1 ⟨rfl, rfl⟩)
   go_ret2
   exact ⟨by rw [HS.out, HR.out]; rfl, Ext.alloc _ _⟩
 · rw [hz] at HZ HR
   cases hv : nodeB n
   · rw [hv] at HP HR
     have HS := Lib.hid (encN_err (size := size) (n := n) (c := 1) (by rw [HR.out]; rfl) (by decide))
     clear hv hz
     unfold ndV at HP ⊢
     go_enter Tryz.func49, Tryz.ntmps49
     go_wp2_with (first
       | (go_at_call 67; refine (HZ.out _).mono ?_; rintro e w1 ⟨rfl, rfl⟩)
       | ((with_reducible (show wpList _ _ _ (⟨some 15, _, _, _, _, _⟩ :: _) _ _)); refine wpList_row (o := ⟨some 15, _, _, _, _, _⟩) rfl 26 (.tmp 3) rfl _ rfl _ _ _ hb ndDesc rfl ndSize ?_)
       | (go_at_call 90; refine (HP.out _ (Ext.alloc _ _)).mono ?_; rintro e w2 ⟨rfl, he2⟩))
     go_ret2
     exact ⟨by rw [HS.out, HR.out]; rfl, (Ext.alloc _ _).trans he2⟩
   · have HL : Hid (sizeNd n = (formL n).length) := Lib.hid (by rw [formL_len]; unfold sizeNd; rw [if_pos hv])
     have hzz : 128 ≤ size ∧ size ≤ 512 := by have := isSize_le hz; omega
     rw [hv] at HP HR
     rw [if_neg (by simp), HL.out] at HR
     rw [HL.out] at HSz
     have HN : Hid (encN size n = formL n ++ List.replicate (size.toNat - (formL n).length) 0) := Lib.hid rfl
     by_cases hle : size < (formL n).length
     · have HS := Lib.hid (encN_err (size := size) (n := n) (c := 8) (by rw [HR.out, if_pos hle]) (by decide))
       rw [if_pos hle] at HR
       have hd : decide (size < ((formL n).length : Int)) = true := decide_eq_true hle
       clear HN HL hv hz hle
       generalize formL n = fm at *
       unfold ndV at HP HSz ⊢
       go_enter Tryz.func49, Tryz.ntmps49
       go_wp2_with (first
         | (go_at_call 67; refine (HZ.out _).mono ?_; rintro e w1 ⟨rfl, rfl⟩)
         | ((with_reducible (show wpList _ _ _ (⟨some 15, _, _, _, _, _⟩ :: _) _ _)); refine wpList_row (o := ⟨some 15, _, _, _, _, _⟩) rfl 26 (.tmp 3) rfl _ rfl _ _ _ hb ndDesc rfl ndSize ?_)
         | (go_at_call 90; refine (HP.out _ (Ext.alloc _ _)).mono ?_; rintro e w2 ⟨rfl, he2⟩; have hb2 := he2.blk _ _ hb)
         | ((with_reducible (show wpList _ _ _ (⟨some 20, _, _, _, _, _⟩ :: _) _ _)); refine wpList_row (o := ⟨some 20, _, _, _, _, _⟩) rfl 26 (.tmp 3) rfl _ rfl _ _ _ hb2 ndDesc rfl ndSize ?_)
         | (go_at_call 91; refine (HSz.out _ ((Ext.alloc _ _).trans he2)).mono ?_; rintro e w3 ⟨rfl, he3⟩))
       go_ret2
       exact ⟨by rw [HS.out, HR.out]; rfl, ((Ext.alloc _ _).trans he2).trans he3⟩
     · rw [if_neg hle] at HR
       have HS : Hid (encNS size n = formL n ++ List.replicate (size.toNat - (formL n).length) 0) := Lib.hid (by unfold encNS; rw [HR.out, if_pos rfl, HN.out])
       have hd : decide (size < ((formL n).length : Int)) = false := decide_eq_false hle
       obtain ⟨cz, hc⟩ : ∃ c : Nat, size = (((formL n).length + c : Nat) : Int) := ⟨(size - (formL n).length).toNat, by omega⟩
       have hct : size.toNat - (formL n).length = cz := by omega
       rw [hct] at HS
       have hs := node_iff.1 hv
       have hlv : n.level = (n.level.toNat : Int) := by have := hs.v1; omega
       have hnx : n.next = (n.next.toNat : Int) := by have := hs.x1; omega
       have F1 := Lib.hid (fourB_any n.next.toNat (by have := hs.x2; omega))
       have hl6 : n.level.toNat ≤ 6 := by have := hs.v2; omega
       have hl1 := hs.l1
       have hl2 := hs.l2
       have HF : Hid (formL n = [UInt8.ofNat n.level.toNat] ++ fourL n.next.toNat ++ [UInt8.ofNat n.ents.length] ++ formGo [] n.ents) := Lib.hid rfl
       have HE : Hid (∀ k, k < n.ents.length → 1 ≤ (entAt n.ents k).2 ∧ (entAt n.ents k).2 ≤ 16777216 ∧ (entAt n.ents k).1.length ≤ 32) := Lib.hid (ents_small hs.ents)
       have HFr := Lib.hid (fun W (e : Ext w W) => fronts_any q c n.ents W (h.ext e) hl (fun i => by
         by_cases hi : i < n.ents.length
         · exact Nat.le_trans (ents_small hs.ents i hi).2.2 (by decide)
         · simp [entAt, List.getD, List.getElem?_eq_none (show n.ents.length ≤ i by omega)]))
       have Hn := Lib.hid h
       have Hc := Lib.hid hc
       have hcl : (cz : Int) ≤ 1000 := by omega
       have hfl : (formL n).length ≤ 1000 := by omega
       unfold ndV at HP HSz ⊢
       clear HN HL hct hle hs hv hz hc h
       rw [hlv, hnx] at HP HSz hb ⊢
       clear hlv hnx
       generalize n.level.toNat = lv at *
       generalize n.next.toNat = nx at *
       generalize formL n = fm at *
       generalize n.ents = L at *
       go_enter Tryz.func49, Tryz.ntmps49
       go_upto_region 5 with (first
         | (go_at_call 67; refine (HZ.out _).mono ?_; rintro e w1 ⟨rfl, rfl⟩)
         | ((with_reducible (show wpList _ _ _ (⟨some 15, _, _, _, _, _⟩ :: _) _ _)); refine wpList_row (o := ⟨some 15, _, _, _, _, _⟩) rfl 26 (.tmp 3) rfl _ rfl _ _ _ hb ndDesc rfl ndSize ?_)
         | (go_at_call 90; refine (HP.out _ (Ext.alloc _ _)).mono ?_; rintro e w2 ⟨rfl, he2⟩; have hb2 := he2.blk _ _ hb)
         | ((with_reducible (show wpList _ _ _ (⟨some 20, _, _, _, _, _⟩ :: _) _ _)); refine wpList_row (o := ⟨some 20, _, _, _, _, _⟩) rfl 26 (.tmp 3) rfl _ rfl _ _ _ hb2 ndDesc rfl ndSize ?_)
         | (go_at_call 91; refine (HSz.out _ ((Ext.alloc _ _).trans he2)).mono ?_; rintro e w3 ⟨rfl, he3⟩))
       refine wp_name (fun w4 => Ext w w4 ∧ Blk w4 w.heap.size (.cells #[.int .i64 lv, .int .i64 nx, .slice q L.length c] 26)) ⟨((Ext.alloc _ _).trans he2).trans he3, he3.blk _ _ hb2⟩ ?_
       clear HP HSz hb he2 he3 hb2
       rintro wb ⟨heb, hbb⟩
       have HX := Lib.hid heb
       have HB := Lib.hid hbb
       have hne : w.heap.size < wb.heap.size := Blk.lt hbb
       have c0 := Blk.val hbb 0 _ rfl
       have c1 := Blk.val hbb 1 _ rfl
       have W1 : IntKind.u8.wrap (lv : Int) = lv := IntWalk.u8_in _ (by omega)
       clear heb hbb
       refine wp_region_mk 7 (Ext.refl wb) (by kernel_rfl) (by kernel_rfl) (by kernel_rfl) ?_
       simp only [List.take_succ_cons, List.take_zero, List.take_nil, List.drop_succ_cons, List.drop_zero, List.drop_nil, List.map_cons, List.map_nil]
       repeat (first
         | (refine wpML_move _ _ rfl (by first | exact .inl rfl | exact .inr rfl) rfl (by first | exact Is.stable _ | exact Fresh.stable _ _ _) ?_
            simp only [setL, List.set_cons_succ, List.set_cons_zero, List.getD_cons_succ, List.getD_cons_zero])
         | (refine wpML_moveC _ rfl (by first | exact .inl rfl | exact .inr rfl) ?_
            simp only [setL, List.set_cons_succ, List.set_cons_zero])
         | (apply wpML_det rfl
            · intro a w' he hr K hK
              simp [Reads, Oper.looksAt, Op.operands, Call.operands, factAt, Is] at hr
              have hx := he.cell
              go_simp
              try go_bits
              try (rw [if_neg (by omega)]; go_simp)
              first
                | exact hK _ (Ext.refl _)
            simp only [setL, List.set_cons_succ, List.set_cons_zero])
         | (refine wpML_fact (o := ⟨some 27, _, _, _, _, _⟩) (RowsF 5 wb.heap.size 1 1 [.int .u8 (lv : Int)]) (RowsF.stable _ _ _ _ _) rfl ?_ ?_
            · intro a w' he hr K hK
              simp [Reads, Oper.looksAt, Op.operands, Call.operands, factAt, Is] at hr
              go_simp
              exact hK _ _ (Ext.alloc _ _) ⟨_, _, rfl, own_of_blk (xs := [.int .u8 (lv : Int)]) (Blk.new w' _) he.size rfl (by decide)⟩
            simp only [setL, List.set_cons_succ, List.set_cons_zero])
         | (refine wpML_fact (o := ⟨some 30, _, _, _, _, _⟩) (Fresh 4 4 (.cells (bC (fourL nx)).toArray 5)) (Fresh.stable _ _ _) rfl ?_ ?_
            · intro a w' he hr K hK
              simp [Reads, Oper.looksAt, Op.operands, Call.operands, factAt, Is] at hr
              go_simp
              refine (F1.out _).mono ?_
              rintro e w'' ⟨fb, rfl, hfb, hx9, _⟩
              exact hK _ _ hx9 ⟨fb, rfl, hfb⟩
            simp only [setL, List.set_cons_succ, List.set_cons_zero])
         | (apply wpML_det rfl
            · intro a w' he hr K hK
              simp [Reads, Oper.looksAt, Op.operands, Call.operands, factAt, Fresh] at hr
              obtain ⟨b, hr1, hr2⟩ := hr
              go_simp
              exact hK _ (Ext.refl _)
            simp only [setL, List.set_cons_succ, List.set_cons_zero]))
       intro w2 he2
       repeat (first | with_reducible refine rest_is _ _ _ _ ?_ | (with_reducible refine rest_fact _ _ _ _ ?_; intro _ _) | with_reducible refine rest_end _ _ ?_)
       simp only [List.reverse_cons, List.reverse_nil, List.nil_append, List.cons_append]
       rename_i x1 h1 x2 h2
       obtain ⟨q5, c5, rfl, ho1⟩ := h1
       obtain ⟨fb, rfl, hfb⟩ := h2
       have hl4 : (fourL nx).length = 4 := rfl
       go_upto_region 6 with (at_builtin; refine wpList_apps (o := ⟨some 31, _, _, _, _, _⟩) rfl (.tmp 27) (.tmp 30) 109 5 rfl wb.heap.size (.int .u8 0) 1 Tryz.underlying109 infoByteA rfl _ 1 _ rfl ho1 (some ⟨fb, 0, none⟩) 4 4 (bC (fourL nx)) rfl rfl (by rw [bC_len, hl4]) (blk_cells hfb) (bC_one _) (by omega) (by decide) he2.size ?_; intro v5 w5 ho5 hg5)
       have hx5 := Ext.trans' he2 (Below.of_grown hg5 ho1 (Nat.le_refl _) he2.size)
       have ho6 : w5.ownsRow wb.heap.size 5 1 v5 5 (bC ([UInt8.ofNat lv] ++ fourL nx)) := by
         rw [bC_app]
         have e : bC [UInt8.ofNat lv] = [.int .u8 (lv : Int)] := by simp only [bC, List.map_cons, List.map_nil]; rw [u8_nat _ (by omega)]
         rw [e]; exact ho5
       have Ho6 := Lib.hid ho6
       have Hx5 := Lib.hid hx5
       have k2 := Blk.val (hx5.blk _ _ HB.out) 2 _ rfl
       have hlk := Blk.lt (hx5.blk _ _ HB.out)
       have W2 : IntKind.u8.wrap (L.length : Int) = L.length := IntWalk.u8_in _ (by omega)
       clear ho1 hfb he2 hg5 hx5 ho5 ho6 c0 c1 W1 F1
       go_upto_region 7 with (at_builtin; refine wpList_apps (o := ⟨some 38, _, _, _, _, _⟩) rfl (.tmp 32) (.tmp 37) 109 5 rfl wb.heap.size (.int .u8 0) 1 Tryz.underlying109 infoByteA rfl _ 5 _ rfl (own_ext Ho6.out (Ext.alloc _ _)) (some ⟨w5.heap.size, 0, none⟩) 1 1 [.int .u8 (L.length : Int)] rfl rfl rfl (blk_cells (ys := [.int .u8 (L.length : Int)]) (Blk.new w5 _)) (by intro u hu; simp at hu; subst hu; rfl) (by omega) (by decide) (Nat.le_trans Hx5.out.size (Ext.alloc _ _).size) ?_; intro v7 w7 ho7 hg7)
       have hxa := Hx5.out.trans (Ext.alloc w5 (.cells [.int .u8 (L.length : Int)].toArray 5))
       have hx7 := Ext.trans' hxa (Below.of_grown hg7 (own_ext Ho6.out (Ext.alloc _ _)) (Nat.le_refl _) hxa.size)
       have Ho7 : Hid (w7.ownsRow wb.heap.size 5 1 v7 6 (bC ([UInt8.ofNat lv] ++ fourL nx ++ [UInt8.ofNat L.length]))) := Lib.hid (by
         rw [bC_app ([UInt8.ofNat lv] ++ fourL nx)]
         have e : bC [UInt8.ofNat L.length] = [.int .u8 (L.length : Int)] := by simp only [bC, List.map_cons, List.map_nil]; rw [u8_nat _ (by omega)]
         rw [e]; exact ho7)
       have Hx7 := Lib.hid hx7
       have k2' := Blk.val (hx7.blk _ _ HB.out) 2 _ rfl
       have hlk' := Blk.lt (hx7.blk _ _ HB.out)
       clear hxa hx7 ho7 hg7 k2 hlk W2
       have hxw7 := HX.out.trans Hx7.out
       go_upto_region 8 with (go_at_call 93; refine (HFr.out _ hxw7).mono ?_; rintro e w8 ⟨he8, fq, fc, rfl, hown⟩)
       obtain ⟨fg, cur, rfl, hfg, hfb, hfn, hfm2, hfz, hft⟩ := own_parts hown (by omega)
       have Hx8 := Lib.hid (Hx7.out.trans he8)
       have Ho8 := Lib.hid (own_ext Ho7.out he8)
       have Hfb := Lib.hid hfb
       have HFv : Hid (∀ W k, Blk W fg (.cells cur 3) → k < L.length → W.cell? ⟨fg, k, none⟩ = some (.int .i64 (frontAt L k : Nat))) := Lib.hid (fun W k hb hk => by
         have h1 := cells_take (n := L.length) hb (by simpa using hft)
         have hlen : (intC (frontsL L L.length)).length = L.length := by simp [intC, frontsL]
         rcases h1 with h1 | ⟨b', o', hq, _, hc⟩
         · rw [h1] at hlen; simp only [List.length_nil] at hlen; omega
         · simp only [Option.some.injEq, Addr.mk.injEq, and_true] at hq
           obtain ⟨rfl, rfl⟩ := hq
           have := hc k (by rw [hlen]; exact hk)
           rw [Nat.zero_add, frontsL_at hk] at this
           exact this)
       clear he8 hown hfb hft hxw7 k2' hlk' HFr
       go_loopw [6, 43] (fun b i wr => ∃ (k : Nat) (o : List UInt8), k ≤ L.length ∧ i = .int .i64 k ∧ fm = o ++ formGo (keyBefore L k) (L.drop k) ∧ o.length ≤ 6 + 100 * k ∧ wr.ownsRow wb.heap.size 5 1 b o.length (bC o) ∧ Ext wb wr ∧ Blk wr fg (.cells cur 3)) (fun _ i _ => L.length - (intOf i).toNat)
       case atStart => exact ⟨0, [UInt8.ofNat lv] ++ fourL nx ++ [UInt8.ofNat L.length], Nat.zero_le _, rfl, by rw [HF.out, List.drop_zero]; rfl, by simp [fourL], by simpa [fourL] using Ho8.out, Hx8.out, Hfb.out⟩
       case round =>
         obtain ⟨k, o, hk, rfl, hfm, hol, hown, hex, hfb⟩ := hrel
         have Hfm := Lib.hid hfm
         have Hown := Lib.hid hown
         have Hex := Lib.hid hex
         have Hfb9 := Lib.hid hfb
         clear hfm
         by_cases hlt : k < L.length
         · have hltI : (k : Int) < L.length := by omega
           obtain ⟨g, off, rfl, hgb, hcc⟩ := (Hn.out.ext (HX.out.trans hex)).at k hlt
           have hgw : g < w.heap.size := by
             obtain ⟨g', off', hq', hgb', _⟩ := Hn.out.at k hlt
             simp only [Option.some.injEq, Addr.mk.injEq, and_true] at hq'
             rw [hq'.1]; exact hgb'
           obtain ⟨hck0, hck1⟩ := hcc k hlt
           have HC : Hid (∀ W, Ext wb W → W.cell? ⟨w.heap.size, 2, none⟩ = some (.slice (some ⟨g, off, none⟩) L.length c) ∧ W.cell? ⟨g, off + k * 2 + 1, none⟩ = some (.int .i64 (entAt L k).2) ∧ w.heap.size < W.heap.size ∧ g < W.heap.size) := Lib.hid (fun W e => by
             obtain ⟨g', off', hq', hgb', hcc'⟩ := (Hn.out.ext (HX.out.trans e)).at k hlt
             simp only [Option.some.injEq, Addr.mk.injEq, and_true] at hq'
             obtain ⟨rfl, rfl⟩ := hq'
             exact ⟨Blk.val (e.blk _ _ HB.out) 2 _ rfl, (hcc' k hlt).2, Blk.lt (e.blk _ _ HB.out), hgb'⟩)
           have k2 := Blk.val (hex.blk _ _ HB.out) 2 _ rfl
           have hlk := Blk.lt (hex.blk _ _ HB.out)
           have hfv := HFv.out _ k hfb hlt
           have hfl' := Blk.lt hfb
           have HD := Lib.hid (formGo_step hlt)
           obtain ⟨p1, p2, p3⟩ := HE.out k hlt
           have hfa := frontAt_le L k
           have hgl : g < wr.heap.size := hgb
           clear hcc hown hex hfb
           generalize entAt L k = x at *
           obtain ⟨bel, pg⟩ := x
           simp only at hck0 hck1 HD p1 p2 p3 hfa HC
           generalize frontAt L k = f at *
           obtain ⟨pn, rfl⟩ := Int.eq_ofNat_of_zero_le (show 0 ≤ pg by omega)
           rw [Int.toNat_natCast] at HD
           go_upto_region 11 with (fail)
           have V1 : IntKind.u8.wrap (f : Int) = f := IntWalk.u8_in _ (by omega)
           have V3 : IntKind.u8.wrap (((bel.length - f : Nat) : Int)) = ((bel.length - f : Nat) : Int) := IntWalk.u8_in _ (by omega)
           have hkS : k ≤ 120 := by omega
           clear V3
           go_upto_region 12 with (at_builtin; refine wpList_apps (o := ⟨some 63, _, _, _, _, _⟩) rfl (.tmp 56) (.tmp 62) 109 5 rfl wb.heap.size (.int .u8 0) 1 Tryz.underlying109 infoByteA rfl _ o.length _ rfl (own_ext Hown.out (Ext.alloc _ _)) (some ⟨wr.heap.size, 0, none⟩) 2 2 [.int .u8 (f : Int), .int .u8 ((bel.length - f : Nat) : Int)] rfl rfl rfl (blk_cells (ys := [.int .u8 (f : Int), .int .u8 ((bel.length - f : Nat) : Int)]) (Blk.new wr _)) (by intro u hu; simp at hu; rcases hu with rfl | rfl <;> rfl) (by omega) (by decide) (Nat.le_trans Hex.out.size (Ext.alloc _ _).size) ?_; intro v11 w11 ho11 hg11)
           have hoA := own_ext Hown.out (Ext.alloc wr (.cells [.int .u8 (f : Int), .int .u8 ((bel.length - f : Nat) : Int)].toArray 5))
           have hxA := Hex.out.trans (Ext.alloc wr (.cells [.int .u8 (f : Int), .int .u8 ((bel.length - f : Nat) : Int)].toArray 5))
           have Hx11 := Lib.hid (Ext.trans' hxA (Below.of_grown hg11 hoA (Nat.le_refl _) hxA.size))
           have Hf11 := Lib.hid (blk_grownT (Hfb9.out.alloc (.cells [.int .u8 (f : Int), .int .u8 ((bel.length - f : Nat) : Int)].toArray 5)) (by decide) hoA hg11)
           have Ho11 : Hid (w11.ownsRow wb.heap.size 5 1 v11 (o.length + 2) (bC (o ++ [UInt8.ofNat f, UInt8.ofNat (bel.length - f)]))) := Lib.hid (by
             rw [bC_app]
             have e : bC [UInt8.ofNat f, UInt8.ofNat (bel.length - f)] = [.int .u8 (f : Int), .int .u8 ((bel.length - f : Nat) : Int)] := by simp only [bC, List.map_cons, List.map_nil]; rw [u8_nat _ (by omega), u8_nat _ (by omega)]
             rw [e]; exact ho11)
           have Hrs : Hid (List.take (bel.length - f) (List.drop f bel) = List.drop f bel) := Lib.hid (List.take_of_length_le (by rw [List.length_drop]; exact Nat.le_refl _))
           have hrl : (List.take (bel.length - f) (List.drop f bel)).length ≤ 32 := by rw [Hrs.out, List.length_drop]; omega
           have F4 := Lib.hid (fourB_any pn (by omega))
           have hl4 : Hid ((fourL pn).length = 4) := Lib.hid rfl
           obtain ⟨z1, z2, z3, z4⟩ := HC.out _ Hx11.out
           clear ho11 hg11 hoA hxA hck0 hck1 k2 hlk hfv hfl' hgl V1
           generalize List.take (bel.length - f) (List.drop f bel) = rs at *
           generalize hz3 : [UInt8.ofNat f, UInt8.ofNat (bel.length - f)] = z3' at *
           have hz3l : Hid (z3'.length = 2) := Lib.hid (by rw [← hz3]; rfl)
           clear hz3
           go_region_law (first
             | (obtain ⟨v8, w8, hr8, ho8, hg8⟩ := run_appS w11.drew (own_ext Ho11.out (Ext.drew _)) rs (by omega) (Nat.le_trans Hx11.out.size (Ext.drew _).size); refine step_append_run rfl (.tmp 64) (.tmp 65) _ _ rfl v11 _ rfl rfl hr8 ?_; have hx8 := Ext.trans' (Hx11.out.trans (Ext.drew _)) (Below.of_grown hg8 (own_ext Ho11.out (Ext.drew _)) (Nat.le_refl _) (Nat.le_trans Hx11.out.size (Ext.drew _).size)); obtain ⟨y1, y2, y3, y4⟩ := HC.out _ hx8)
             | (go_simp; go_at_call 92; refine (F4.out _).mono ?_; rintro e w12 ⟨fb2, rfl, hfb2, hx12, hsz12⟩)
             | (obtain ⟨v13, w13, hr13, ho13, hg13⟩ := run_appB w12 (own_ext ho8 hx12) hfb2 hl4.out (by omega) (Nat.le_trans hx8.size hx12.size); refine step_append_run rfl (.tmp 66) (.tmp 73) _ _ rfl _ _ rfl rfl hr13 ?_))
           all_goals
             have hx12' := hx8.trans hx12
             have Hxe := Lib.hid (Ext.trans' hx12' (Below.of_grown hg13 (own_ext ho8 hx12) (Nat.le_refl _) hx12'.size))
             have Hfe := Lib.hid (blk_grownT (hx12.blk _ _ (blk_grownT ((Ext.drew w11).blk _ _ Hf11.out) (by decide) (own_ext Ho11.out (Ext.drew _)) hg8)) (by decide) (own_ext ho8 hx12) hg13)
             have Hoe : Hid (w13.ownsRow wb.heap.size 5 1 v13 (o ++ z3' ++ rs ++ fourL pn).length (bC (o ++ z3' ++ rs ++ fourL pn))) := Lib.hid (by
               have e : (o ++ z3' ++ rs ++ fourL pn).length = o.length + 2 + rs.length + 4 := by simp only [List.length_append, hz3l.out, hl4.out]
               rw [e, bC_app, bC_app (o ++ z3')]
               exact ho13)
             have Hnew : Hid (fm = (o ++ z3' ++ rs ++ fourL pn) ++ formGo (keyBefore L (k + 1)) (L.drop (k + 1)) ∧ (o ++ z3' ++ rs ++ fourL pn).length ≤ 6 + 100 * (k + 1)) := Lib.hid ⟨by
               rw [Hfm.out, HD.out, Hrs.out]
               simp only [List.append_assoc], by
               simp only [List.length_append, hz3l.out, hl4.out]; omega⟩
             clear hr8 ho8 hg8 hx8 y1 y2 y3 y4 hfb2 hx12 hsz12 hr13 ho13 hg13 hx12' z1 z2 z3 z4
             go_wp2_with fail
             go_roundw
             case rel => exact ⟨k + 1, _, by omega, by go_num, Hnew.out.1, Hnew.out.2, Hoe.out, Hxe.out, Hfe.out⟩
             case measure => simp [intOf]; omega
         · have hltI : decide ((k : Int) < L.length) = false := decide_eq_false (by omega)
           have Hfin : Hid (fm = o) := Lib.hid (by rw [Hfm.out, List.drop_eq_nil_of_le (by omega)]; simp [formGo])
           have hoe : o = fm := Hfin.out.symm
           subst hoe
           have hpos : 0 < o.length := by rw [HF.out]; simp
           obtain ⟨qb, cb, rfl⟩ := own_slice hown
           obtain ⟨gb, curb, rfl, _, _, _, _, _, _⟩ := own_parts hown hpos
           have hcS : size - (o.length : Int) = (cz : Int) := by have := Hc.out; omega
           have hsum : (List.replicate cz (0 : UInt8)).length ≤ 1000 := by rw [List.length_replicate]; omega
           have HRp := Lib.hid (fun W => Repeat_zeros cz (by omega) W)
           have HxF := Lib.hid (HX.out.trans hex)
           clear hown hex hfb Hfb Hfb9 HFv HE HF hpos Hfm
           generalize List.replicate cz (0 : UInt8) = R at *
           go_upto_region 14 with (fail)
           refine wp_region_mk 200 (Ext.refl wr) (by kernel_rfl) (by kernel_rfl) (by kernel_rfl) ?_
           simp only [List.take_succ_cons, List.take_zero, List.take_nil, List.drop_succ_cons, List.drop_zero, List.drop_nil, List.map_cons, List.map_nil]
           repeat (first
             | (refine wpML_move _ _ rfl (by first | exact .inl rfl | exact .inr rfl) rfl (by first | exact Is.stable _ | exact Fresh.stable _ _ _) ?_
                simp only [setL, List.set_cons_succ, List.set_cons_zero, List.getD_cons_succ, List.getD_cons_zero])
             | (refine wpML_moveC _ rfl (by first | exact .inl rfl | exact .inr rfl) ?_
                simp only [setL, List.set_cons_succ, List.set_cons_zero])
             | (apply wpML_det rfl
                · intro a w' he hr K hK
                  simp [Reads, Oper.looksAt, Op.operands, Call.operands, factAt, Is] at hr
                  have hx := he.cell
                  go_simp
                  try go_bits
                  try (rw [if_neg (by omega)]; go_simp)
                  first
                    | exact hK _ (Ext.refl _)
                simp only [setL, List.set_cons_succ, List.set_cons_zero])
             | (refine wpML_det (o := ⟨some 77, _, _, _, _, _⟩) (v := .string ⟨o.toArray⟩) rfl ?_ ?_
                · intro a w' he hr K hK
                  simp [Reads, Oper.looksAt, Op.operands, Call.operands, factAt, Is] at hr
                  have hcvb := conv_row (own_ext Hown.out he)
                  go_simp
                  exact hK _ (Ext.refl _)
                simp only [setL, List.set_cons_succ, List.set_cons_zero])
             | (refine wpML_det (o := ⟨some 82, _, _, _, _, _⟩) (v := .string ⟨R.toArray⟩) rfl ?_ ?_
                · intro a w' he hr K hK
                  simp [Reads, Oper.looksAt, Op.operands, Call.operands, factAt, Is] at hr
                  go_simp
                  refine (HRp.out _).mono ?_
                  rintro e w'' ⟨rfl, he''⟩
                  exact hK _ he''
                simp only [setL, List.set_cons_succ, List.set_cons_zero])
             | (apply wpML_det rfl
                · intro a w' he hr K hK
                  simp [Reads, Oper.looksAt, Op.operands, Call.operands, factAt, Fresh] at hr
                  obtain ⟨b, hr1, hr2⟩ := hr
                  go_simp
                  exact hK _ (Ext.refl _)
                simp only [setL, List.set_cons_succ, List.set_cons_zero]))
           intro w2 he2
           repeat (first | with_reducible refine rest_is _ _ _ _ ?_ | (with_reducible refine rest_fact _ _ _ _ ?_; intro _ _) | with_reducible refine rest_end _ _ ?_)
           simp only [List.reverse_cons, List.reverse_nil, List.nil_append, List.cons_append]
           have HxG := Lib.hid (HxF.out.trans he2)
           clear he2
           go_wp2
           go_ret2
           exact ⟨by rw [HS.out, HR.out]; rfl, HxG.out⟩
end Go.Proofs.YtifmbcjbccedfaaGreatDoor
