/- The walk of Rebuild at the law's example, and of awake. -/
import Derived.Test.YtmnpappbacndlaaGreatDoorSE
set_option linter.unusedSimpArgs false
set_option linter.unusedVariables false
namespace Go.Proofs.YtmnpappbacndlaaGreatDoor
open Go Go.RowKit Dsd
/-! ## A map whose values are functions -/
theorem run_getObjM {P : Program} {w : World} {b : Nat} {es : Array MapEntry} {cl : Nat} (hb : w.heap[b]? = some (.map es cl)) : (getObj b).run P w = .ok (.map es cl) w := by
  simp [getObj, Sem.run, hb]
theorem run_setObjM {P : Program} {w : World} {b : Nat} {es : Array MapEntry} {cl : Nat} (hb : w.heap[b]? = some (.map es cl)) (o : Obj) : (setObj b o).run P w = .ok () (w.putObj b o) := by
  simp [setObj, Sem.run, hb, World.putObj]
theorem run_checkI (e : Bool) (n : Nat) (k : Int) (w : World) : (Instr.checkKey e (n + 1) 3 (.int .i64 k)).run Tryz.prog w = .ok () w := by
  unfold Instr.checkKey
  simp [Sem.run_bind, run_underlying Tryz.underlying3]
theorem fm_put {w : World} {b : Nat} {es : Array MapEntry} {cl : Nat} (hb : Blk w b (.map es cl)) (k : Int) (v : Value) (hf : Instr.findNow (.int .i64) (.int .i64 k) es.toList 0 = some none) :
    (Instr.mapUpdate 43 (.map (some b)) (.int .i64 k) v).run Tryz.prog w = .ok () (w.putObj b (.map (es.push ⟨.int .i64 k, v, cl⟩) (cl + 1))) := by
  unfold Blk at hb
  unfold Instr.mapUpdate
  rw [Sem.run_bind, run_underlying Tryz.underlying43]
  simp only [Result.andThen_ok]
  rw [Sem.run_bind, run_getObjM hb]
  simp only [Result.andThen_ok]
  rw [Sem.run_bind, run_checkI _ 9999]
  simp only [Result.andThen_ok]
  unfold Instr.findKey
  rw [Sem.run_bind, Sem.run_bind, run_underlying Tryz.underlying3]
  simp only [Result.andThen_ok, hf, Sem.run_pure]
  exact run_setObjM hb _
theorem fm_get {w : World} {b : Nat} {es : Array MapEntry} {cl : Nat} (hb : Blk w b (.map es cl)) (k : Int) (v : Value) (i : Nat) (hf : Instr.findNow (.int .i64) (.int .i64 k) es.toList 0 = some (some (i, v))) :
    (Instr.lookup 43 (.map (some b)) (.int .i64 k) false).run Tryz.prog w = .ok v w := by
  unfold Blk at hb
  unfold Instr.lookup
  rw [Sem.run_bind, run_underlying Tryz.underlying43]
  simp only [Result.andThen_ok]
  rw [Sem.run_bind, run_getObjM hb]
  simp only [Result.andThen_ok]
  rw [Sem.run_bind, Sem.run_pure]
  simp only [Result.andThen_ok]
  rw [Sem.run_bind, run_checkI _ 9999]
  simp only [Result.andThen_ok]
  unfold Instr.findKey
  rw [Sem.run_bind, Sem.run_bind, run_underlying Tryz.underlying3]
  simp [hf, Sem.run_pure, Sem.run_bind]
def fnV (n : Nat) : Value := .func (.func n) #[] #[]
theorem wpList_ins {w : World} {ops : Array Oper} {rest : List Oper} {o : Oper} {a : Act} {Q : Exit → Act → World → Prop} (hg : Region.wanted o (yielded ops a.tmps) = true) (m x y : Operand) (ho : o.op = .insert 43 m x y) {b : Nat} {es : Array MapEntry} {cl : Nat} (hm : a.eval m = .map (some b)) (k : Int) (v : Value) (hx : a.eval x = .int .i64 k) (hy : a.eval y = v) (hb : Blk w b (.map es cl)) (hf : Instr.findNow (.int .i64) (.int .i64 k) es.toList 0 = some none)
    (hK : ∀ w', Chg b w w' → Blk w' b (.map (es.push ⟨.int .i64 k, v, cl⟩) (cl + 1)) → wpList Tryz.prog ops Q rest (a.put o.dst undef) w') : wpList Tryz.prog ops Q (o :: rest) a w := by
  refine BigFrame.wpList_want hg fun K' hK' => ?_
  have hrun := fm_put hb k v hf
  have hK2 := hK (w.putObj b (.map (es.push ⟨.int .i64 k, v, cl⟩) (cl + 1))) ⟨rfl, rfl, rfl, by simp [World.putObj], fun i hi => World.putObj_heap_other hi⟩ (by
    unfold Blk at hb ⊢
    obtain ⟨hlt, _⟩ := Array.getElem?_eq_some_iff.1 hb
    simp [World.putObj, hlt])
  unfold Oper.wp
  simp [execOp, ho, hm, hx, hy, hrun, Result.andThen]
  exact hK' _ _ hK2
theorem wpList_fget {w : World} {ops : Array Oper} {rest : List Oper} {o : Oper} {a : Act} {Q : Exit → Act → World → Prop} (hg : Region.wanted o (yielded ops a.tmps) = true) (m x : Operand) (ho : o.op = .lookup 43 m x false) {b : Nat} {es : Array MapEntry} {cl : Nat} (hm : a.eval m = .map (some b)) (k : Int) (v : Value) (i : Nat) (hx : a.eval x = .int .i64 k) (hb : Blk w b (.map es cl)) (hf : Instr.findNow (.int .i64) (.int .i64 k) es.toList 0 = some (some (i, v)))
    (hK : wpList Tryz.prog ops Q rest (a.put o.dst v) w) : wpList Tryz.prog ops Q (o :: rest) a w := by
  refine BigFrame.wpList_want hg fun K' hK' => ?_
  have hrun := fm_get hb k v i hf
  unfold Oper.wp
  simp [execOp, ho, hm, hx, hrun, Result.andThen]
  exact hK' _ _ hK
set_option maxRecDepth 100000 in
set_option maxHeartbeats 4000000 in
theorem door_ex (w : World) : Calls Tryz.prog 11 #[.agg #[.int .i64 exR.id, .int .i64 exR.org, .int .i64 exR.format, .int .i64 exR.length, .int .i64 exR.block, .int .i64 exR.keyAt, .int .i64 exR.keyLength, .int .i64 exR.interval, .int .i64 exR.area, .int .i64 exR.freeInterval, .int .i64 exR.freeArea, .int .i64 exR.base, .int .i64 exR.altAt, .int .i64 exR.altLength, .bool exR.unique, .int .i64 exR.cls, .string ⟨exR.volume.toArray⟩, .string ⟨exR.owner.toArray⟩, .int .i64 exR.created, .int .i64 exR.expires, .bool exR.archived]] w fun e w' => e = .returned (.int .i64 0) ∧ Ext w w' := by
  have HV := Lib.hid (fun W => Valid_any exR W)
  have hv : validB exR = true := by decide
  simp only [exR]
  go_enter Tryz.func11, Tryz.ntmps11
  have hds : DsAt (w.alloc (.cells #[.int .i64 exR.id, .int .i64 exR.org, .int .i64 exR.format, .int .i64 exR.length, .int .i64 exR.block, .int .i64 exR.keyAt, .int .i64 exR.keyLength, .int .i64 exR.interval, .int .i64 exR.area, .int .i64 exR.freeInterval, .int .i64 exR.freeArea, .int .i64 exR.base, .int .i64 exR.altAt, .int .i64 exR.altLength, .bool exR.unique, .int .i64 exR.cls, .string ⟨exR.volume.toArray⟩, .string ⟨exR.owner.toArray⟩, .int .i64 exR.created, .int .i64 exR.expires, .bool exR.archived] 31)) w.heap.size exR := Blk.new w _
  go_wp2_with (first | (refine wpList_ds rfl (.tmp 1) rfl _ rfl exR hds ?_) | (go_at_call 17; refine (HV.out _).mono ?_; rw [hv]; rintro e w1 ⟨rfl, he1⟩))
  go_ret
  exact ⟨rfl, (Ext.alloc _ _).trans he1⟩
set_option maxRecDepth 100000 in
set_option maxHeartbeats 4000000 in
theorem Rebuild_ex (w : World) : Calls Tryz.prog 8 #[.agg #[.int .i64 exR.id, .int .i64 exR.org, .int .i64 exR.format, .int .i64 exR.length, .int .i64 exR.block, .int .i64 exR.keyAt, .int .i64 exR.keyLength, .int .i64 exR.interval, .int .i64 exR.area, .int .i64 exR.freeInterval, .int .i64 exR.freeArea, .int .i64 exR.base, .int .i64 exR.altAt, .int .i64 exR.altLength, .bool exR.unique, .int .i64 exR.cls, .string ⟨exR.volume.toArray⟩, .string ⟨exR.owner.toArray⟩, .int .i64 exR.created, .int .i64 exR.expires, .bool exR.archived], .slice none 0 0, .int .i64 3] w fun e w' => Ext w w' ∧ ∃ v s, s.length = 128 ∧ e = .returned (.tuple #[v, .int .i64 0]) ∧ w'.ownsRow w.heap.size 25 2 v 1 (swC [(0, s)]) := by
  have HD := Lib.hid door_ex
  have HR := Lib.hid relative_ex
  have hmm := @run_makeMap Tryz.prog
  simp only [exR]
  go_enter Tryz.func8, Tryz.ntmps8
  have hds : DsAt (w.alloc (.cells #[.int .i64 exR.id, .int .i64 exR.org, .int .i64 exR.format, .int .i64 exR.length, .int .i64 exR.block, .int .i64 exR.keyAt, .int .i64 exR.keyLength, .int .i64 exR.interval, .int .i64 exR.area, .int .i64 exR.freeInterval, .int .i64 exR.freeArea, .int .i64 exR.base, .int .i64 exR.altAt, .int .i64 exR.altLength, .bool exR.unique, .int .i64 exR.cls, .string ⟨exR.volume.toArray⟩, .string ⟨exR.owner.toArray⟩, .int .i64 exR.created, .int .i64 exR.expires, .bool exR.archived] 31)) w.heap.size exR := Blk.new w _
  go_wp2_with (first | (refine wpList_ds rfl (.tmp 3) rfl _ rfl exR hds ?_) | (go_at_call 11; refine (HD.out _).mono ?_; rintro e w1 ⟨rfl, he1⟩))
  go_loopw [6, 7, 25] (fun x y i wr => x = .slice none 0 0 ∧ y = .int .i64 0 ∧ i = .int .i64 0 ∧ Ext w1 wr) (fun _ _ _ _ => 0)
  case atStart => exact ⟨rfl, rfl, rfl, Ext.refl _⟩
  case round =>
    obtain ⟨rfl, rfl, rfl, he⟩ := hrel
    have HE := Lib.hid ((Ext.alloc w _).trans (he1.trans he))
    have HDs : Hid (DsAt wr w.heap.size exR) := Lib.hid ((he1.trans he).blk _ _ hds)
    clear he he1 hds
    go_upto_region 13 with (first
      | (refine wpList_ins rfl (.tmp 44) (.const (.int .i64 0)) _ rfl rfl _ (fnV 12) rfl rfl (Blk.new wr (.map #[] 0)) (by rfl) ?_; intro w2 hc2 hm2)
      | (refine wpList_ins rfl (.tmp 44) (.const (.int .i64 1)) _ rfl rfl _ (fnV 13) rfl rfl hm2 (by rfl) ?_; intro w3 hc3 hm3)
      | (refine wpList_ins rfl (.tmp 44) (.const (.int .i64 2)) _ rfl rfl _ (fnV 14) rfl rfl hm3 (by rfl) ?_; intro w4 hc4 hm4)
      | (refine wpList_ins rfl (.tmp 44) (.const (.int .i64 3)) _ rfl rfl _ (fnV 15) rfl rfl hm4 (by rfl) ?_; intro w5 hc5 hm5))
    have HW := hc5.ext (hc4.ext (hc3.ext (hc2.ext (Ext.alloc wr (.map #[] 0)) (Nat.le_refl _)) (Nat.le_refl _)) (Nat.le_refl _)) (Nat.le_refl _)
    have HEw := Lib.hid (HE.out.trans HW)
    have hds : DsAt w5 w.heap.size exR := HW.blk _ _ HDs.out
    clear HW hc2 hc3 hc4 hc5 hm2 hm3 hm4
    have hl : wr.heap.size < w5.heap.size := (Array.getElem?_eq_some_iff.1 hm5).1
    have c1 : w5.cell? ⟨w.heap.size, 1, none⟩ = some (.int .i64 2) := Blk.val hds 1 _ rfl
    go_wp2_with (first
      | (refine wpList_ds rfl (.tmp 3) rfl _ rfl exR hds ?_)
      | (refine wpList_fget rfl (.tmp 46) (.tmp 48) rfl rfl 2 (.func (.func 14) #[] #[]) 2 rfl hm5 (by rfl) ?_)
      | (go_at_call 14; refine (HR.out _).mono ?_; rintro e w6 ⟨he6, v6, s6, hs6, rfl, ho6⟩))
    go_ret2
    exact ⟨HEw.out.trans he6, v6, s6, hs6, rfl, own_le ho6 HEw.out.size⟩
end Go.Proofs.YtmnpappbacndlaaGreatDoor
