/- The walks of package index's open, load. -/
import Derived.Test.YtolmoknjmdmpgaaGreatDE
set_option linter.unusedSimpArgs false
set_option linter.unusedVariables false
namespace Go.Proofs.YtolmoknjmdmpgaaGreat
open Go.RowKit Dsd
theorem trDesc : Tryz.prog.underlying 70 = some (.struct (Tryz.prog.fieldsOf 70)) := by kernel_rfl
theorem trSize : (Tryz.prog.info? 70).map (·.size) = some 29 := by kernel_rfl
/-- The cells of a tree that is read: its pages, header and description. -/
def trC (q : Value) (h : Hd) (d : DS) : Array Value := #[.iface 29 q, .int .i64 h.applied, .int .i64 h.count, .int .i64 h.fin, .int .i64 h.root, .int .i64 h.height, .int .i64 h.splits, .int .i64 h.areas, .int .i64 d.id, .int .i64 d.org, .int .i64 d.format, .int .i64 d.length, .int .i64 d.block, .int .i64 d.keyAt, .int .i64 d.keyLength, .int .i64 d.interval, .int .i64 d.area, .int .i64 d.freeInterval, .int .i64 d.freeArea, .int .i64 d.base, .int .i64 d.altAt, .int .i64 d.altLength, .bool d.unique, .int .i64 d.cls, .string ⟨d.volume.toArray⟩, .string ⟨d.owner.toArray⟩, .int .i64 d.created, .int .i64 d.expires, .bool d.archived]
/-- What load hands back. -/
def Load22 (M : List (List UInt8)) (d : DS) (page level : Int) (w : World) (e : Ending) (w' : World) : Prop := Ext w w' ∧ ∃ q c, e = .returned (.tuple #[.agg #[.int .i64 (loadD M d page level).1.level, .int .i64 (loadD M d page level).1.next, .slice q (loadD M d page level).1.ents.length c], .int .i64 (loadD M d page level).2]) ∧
  w'.ownsRow w.heap.size 75 2 (.slice q (loadD M d page level).1.ents.length c) (loadD M d page level).1.ents.length (entCells (loadD M d page level).1.ents)
set_option maxRecDepth 100000 in
set_option maxHeartbeats 2000000 in
theorem load22_any (p : Option Addr) (cap n : Nat) (m : List (List UInt8)) (h : Hd) (d : DS) (page level : Int) (w : World) (hs : Strs w p m) (hn : m.length = n) (hm : Small m) :
    Calls Tryz.prog 51 #[.agg (trC (.slice p n cap) h d), .int .i64 page, .int .i64 level] w (Load22 m d page level w) := by
  have Hpg := Lib.hid (fun w h => Page_any p cap n m page w h hn (by have := hm.1; omega))
  have hsm := pageOf_small hm page
  have Hde := Lib.hid (fun W => DecodeN_any d.interval (pageOf m page).1 hsm W)
  have Hs := Lib.hid hs
  have hmp := method_page
  have hex2 := (Ext.alloc w (.cells (trC (.slice p n cap) h d) 70)).trans (Ext.alloc _ (.cells #[.int .i64 0, .int .i64 0, .slice none 0 0] 53))
  have HZ : Hid (∀ e w' c, loadD m d page level = (Nd.zero, c) → (Ext w w' ∧ e = .returned (.tuple #[.agg #[.int .i64 0, .int .i64 0, .slice none 0 0], .int .i64 c])) → Load22 m d page level w e w') := Lib.hid (fun e w' c hc ⟨h1, h2⟩ => by
    unfold Load22
    rw [hc]
    exact ⟨h1, none, 0, h2, rfl, .inl ⟨rfl, rfl⟩⟩)
  clear hs
  by_cases h1 : (pageOf m page).2 = 0
  · have HP := Lib.hid h1
    generalize hpe : (pageOf m page).2 = ep at *
    subst h1
    cases hE : (decide (decE d.interval (pageOf m page).1 = 0))
    · have hE' : decE d.interval (pageOf m page).1 ≠ 0 := of_decide_eq_false hE
      have hld : loadD m d page level = (Nd.zero, 11) := by
        unfold loadD; rw [hpe, if_neg (by simp), if_pos (.inl hE')]
      have HO := Lib.hid (fun e w' => HZ.out e w' 11 hld)
      have hz0 : decNd d.interval (pageOf m page).1 = Nd.zero := by unfold decNd; rw [if_neg hE']
      unfold DecNOut at Hde
      rw [hz0] at Hde
      clear HZ hld hz0 hE
      generalize decE d.interval (pageOf m page).1 = de at *
      have hdi : (de != 0) = true := by simpa using hE'
      generalize (pageOf m page).1 = s at *
      generalize Load22 m d page level w = OUT at *
      go_enter Tryz.func51, Tryz.ntmps51
      go_upto_region 1 with (fail)
      refine wp_name (fun w0 => Ext w w0 ∧ Blk w0 w.heap.size (.cells (trC (.slice p n cap) h d) 70) ∧ Blk w0 (w.heap.size + 1) (.cells #[.int .i64 0, .int .i64 0, .slice none 0 0] 53)) ⟨hex2, Blk.alloc (Blk.new w _) _, Blk.new1 _ _ _ (by simp)⟩ ?_
      clear hex2
      rintro w0 ⟨he0, hb2, hz⟩
      have c0 : w0.cell? ⟨w.heap.size, 0, none⟩ = some (.iface 29 (.slice p n cap)) := Blk.val hb2 0 _ rfl
      have c15 : w0.cell? ⟨w.heap.size, 15, none⟩ = some (.int .i64 d.interval) := Blk.val hb2 15 _ rfl
      have l0 := Blk.lt hb2
      go_wp2_with (first
        | (go_at_call 53; refine (Hpg.out _ (Hs.out.ext he0)).mono ?_; rintro e w1 ⟨rfl, rfl⟩)
        | (go_at_call 75; refine (Hde.out _).mono ?_; rintro e w2 ⟨he2, q2, c2, rfl, ho2⟩; have hz2 := he2.blk _ _ hz)
        | (refine wpList_put rfl 53 (.tmp 10) (.tmp 28) rfl _ #[.int .i64 0, .int .i64 0, .slice q2 0 c2] rfl rfl _ _ (Blk.new w2 _) ndSize rfl (by simp [Value.oneCell']) ?_; intro w3 hn3 hc3; have hz3 := hc3.blk (Blk.alloc hz2 _) (by have := Blk.lt hz2; omega))
        | (refine wpList_bld (o := ⟨some 38, _, _, _, _, _⟩) rfl 53 #[] rfl [] rfl _ ndZ_built ?_)
        | (refine wpList_put rfl 53 (.tmp 6) (.tmp 38) rfl _ #[.int .i64 0, .int .i64 0, .slice none 0 0] rfl rfl _ _ hz3 ndSize rfl (by simp [Value.oneCell']) ?_; intro w6 hz6 hc6))
      have hsz2 := he2.size
      have hsz0 := he0.size
      exact bodyPost_ret (results_row1 Tryz.results51 _ _ _ _ _ _ rfl hz6 ndDesc rfl ndSize) rfl (HO.out _ _ ⟨hc6.ext (hc3.ext ((he0.trans he2).trans (Ext.alloc _ _)) (by omega)) (by omega), rfl⟩)
    · have hE' : decE d.interval (pageOf m page).1 = 0 := of_decide_eq_true hE
      have HE' := Lib.hid hE'
      unfold DecNOut at Hde
      rw [hE'] at Hde
      have HL1 : Hid ((decNd d.interval (pageOf m page).1).level ≠ level → loadD m d page level = (Nd.zero, 11)) := Lib.hid (fun hne => by
        unfold loadD; rw [hpe, if_neg (by simp), if_pos (.inr hne)])
      have HL2 : Hid ((decNd d.interval (pageOf m page).1).level = level → loadD m d page level = (decNd d.interval (pageOf m page).1, 0)) := Lib.hid (fun he => by
        unfold loadD; rw [hpe, if_neg (by simp), if_neg (by rw [hE', he]; simp)])
      have HL3 : Hid (∀ e w' q c, (decNd d.interval (pageOf m page).1).level = level → Ext w w' → e = .returned (.tuple #[.agg #[.int .i64 (decNd d.interval (pageOf m page).1).level, .int .i64 (decNd d.interval (pageOf m page).1).next, .slice q (decNd d.interval (pageOf m page).1).ents.length c], .int .i64 0]) → w'.ownsRow w.heap.size 75 2 (.slice q (decNd d.interval (pageOf m page).1).ents.length c) (decNd d.interval (pageOf m page).1).ents.length (entCells (decNd d.interval (pageOf m page).1).ents) → Load22 m d page level w e w') := Lib.hid (fun e w' q c he h1 h2 h3 => by
        unfold Load22
        rw [HL2.out he]
        exact ⟨h1, q, c, h2, h3⟩)
      clear hE hE'
      generalize decNd d.interval (pageOf m page).1 = nd at *
      generalize (pageOf m page).1 = s at *
      generalize Load22 m d page level w = OUT at *
      go_enter Tryz.func51, Tryz.ntmps51
      go_upto_region 1 with (fail)
      refine wp_name (fun w0 => Ext w w0 ∧ Blk w0 w.heap.size (.cells (trC (.slice p n cap) h d) 70) ∧ Blk w0 (w.heap.size + 1) (.cells #[.int .i64 0, .int .i64 0, .slice none 0 0] 53)) ⟨hex2, Blk.alloc (Blk.new w _) _, Blk.new1 _ _ _ (by simp)⟩ ?_
      clear hex2
      rintro w0 ⟨he0, hb2, hz⟩
      have c0 : w0.cell? ⟨w.heap.size, 0, none⟩ = some (.iface 29 (.slice p n cap)) := Blk.val hb2 0 _ rfl
      have c15 : w0.cell? ⟨w.heap.size, 15, none⟩ = some (.int .i64 d.interval) := Blk.val hb2 15 _ rfl
      have l0 := Blk.lt hb2
      by_cases hlv : nd.level = level
      · have hli : (nd.level != level) = false := by simp [hlv]
        have HO := Lib.hid (fun e w' q c => HL3.out e w' q c hlv)
        clear HL1 HL2 HL3 HZ hlv
        go_wp2_with (first
          | (go_at_call 53; refine (Hpg.out _ (Hs.out.ext he0)).mono ?_; rintro e w1 ⟨rfl, rfl⟩)
          | (go_at_call 75; refine (Hde.out _).mono ?_; rintro e w2 ⟨he2, q2, c2, rfl, ho2⟩; have hz2 := he2.blk _ _ hz)
          | (refine wpList_put rfl 53 (.tmp 10) (.tmp 28) rfl _ #[.int .i64 nd.level, .int .i64 nd.next, .slice q2 nd.ents.length c2] rfl rfl _ _ (Blk.new w2 _) ndSize rfl (by simp [Value.oneCell']) ?_; intro w3 hn3 hc3; have hz3 := hc3.blk (Blk.alloc hz2 _) (by have := Blk.lt hz2; omega); have cl3 := Blk.val hn3 0 _ rfl; have ll3 := Blk.lt hn3)
          | ((with_reducible (show wpList _ _ _ (⟨some 39, _, _, _, _, _⟩ :: _) _ _)); refine wpList_row (o := ⟨some 39, _, _, _, _, _⟩) rfl 53 (.tmp 10) rfl _ rfl _ _ _ hn3 ndDesc rfl ndSize ?_)
          | (refine wpList_put rfl 53 (.tmp 6) (.tmp 39) rfl _ #[.int .i64 nd.level, .int .i64 nd.next, .slice q2 nd.ents.length c2] rfl rfl _ _ hz3 ndSize rfl (by simp [Value.oneCell']) ?_; intro w6 hz6 hc6))
        have hsz2 := he2.size
        have hsz0 := he0.size
        have hlz := Blk.lt hz2
        have hE3 : Ext w2 w3 := hc3.ext (Ext.alloc _ _) (Nat.le_refl _)
        exact bodyPost_ret (results_row1 Tryz.results51 _ _ _ _ _ _ rfl hz6 ndDesc rfl ndSize) rfl (HO.out _ _ q2 c2 (hc6.ext ((he0.trans he2).trans hE3) (by omega)) rfl (own_le (own_chgT (own_ext ho2 hE3) (by decide) hz3 hc6) hsz0))
      · have hli : (nd.level != level) = true := by simpa using hlv
        have HO := Lib.hid (fun e w' => HZ.out e w' 11 (HL1.out hlv))
        clear HL1 HL2 HL3 HZ hlv
        go_wp2_with (first
          | (go_at_call 53; refine (Hpg.out _ (Hs.out.ext he0)).mono ?_; rintro e w1 ⟨rfl, rfl⟩)
          | (go_at_call 75; refine (Hde.out _).mono ?_; rintro e w2 ⟨he2, q2, c2, rfl, ho2⟩; have hz2 := he2.blk _ _ hz)
          | (refine wpList_put rfl 53 (.tmp 10) (.tmp 28) rfl _ #[.int .i64 nd.level, .int .i64 nd.next, .slice q2 nd.ents.length c2] rfl rfl _ _ (Blk.new w2 _) ndSize rfl (by simp [Value.oneCell']) ?_; intro w3 hn3 hc3; have hz3 := hc3.blk (Blk.alloc hz2 _) (by have := Blk.lt hz2; omega); have cl3 := Blk.val hn3 0 _ rfl; have ll3 := Blk.lt hn3)
          | (refine wpList_bld (o := ⟨some 38, _, _, _, _, _⟩) rfl 53 #[] rfl [] rfl _ ndZ_built ?_)
          | (refine wpList_put rfl 53 (.tmp 6) (.tmp 38) rfl _ #[.int .i64 0, .int .i64 0, .slice none 0 0] rfl rfl _ _ hz3 ndSize rfl (by simp [Value.oneCell']) ?_; intro w6 hz6 hc6))
        have hsz2 := he2.size
        have hsz0 := he0.size
        exact bodyPost_ret (results_row1 Tryz.results51 _ _ _ _ _ _ rfl hz6 ndDesc rfl ndSize) rfl (HO.out _ _ ⟨hc6.ext (hc3.ext ((he0.trans he2).trans (Ext.alloc _ _)) (by omega)) (by omega), rfl⟩)
  · have hld : loadD m d page level = (Nd.zero, (pageOf m page).2) := by unfold loadD; rw [if_pos h1]
    have HO := Lib.hid (fun e w' => HZ.out e w' _ hld)
    have hpi : ((pageOf m page).2 != 0) = true := by simpa using h1
    clear HZ hld Hde
    generalize (pageOf m page).1 = s at *
    generalize (pageOf m page).2 = ep at *
    generalize Load22 m d page level w = OUT at *
    go_enter Tryz.func51, Tryz.ntmps51
    go_upto_region 1 with (fail)
    refine wp_name (fun w0 => Ext w w0 ∧ Blk w0 w.heap.size (.cells (trC (.slice p n cap) h d) 70) ∧ Blk w0 (w.heap.size + 1) (.cells #[.int .i64 0, .int .i64 0, .slice none 0 0] 53)) ⟨hex2, Blk.alloc (Blk.new w _) _, Blk.new1 _ _ _ (by simp)⟩ ?_
    clear hex2
    rintro w0 ⟨he0, hb2, hz⟩
    have c0 : w0.cell? ⟨w.heap.size, 0, none⟩ = some (.iface 29 (.slice p n cap)) := Blk.val hb2 0 _ rfl
    have l0 := Blk.lt hb2
    go_wp2_with (first
      | (go_at_call 53; refine (Hpg.out _ (Hs.out.ext he0)).mono ?_; rintro e w1 ⟨rfl, rfl⟩)
      | (refine wpList_bld (o := ⟨some 20, _, _, _, _, _⟩) rfl 53 #[] rfl [] rfl _ ndZ_built ?_)
      | (refine wpList_put rfl 53 (.tmp 6) (.tmp 20) rfl _ #[.int .i64 0, .int .i64 0, .slice none 0 0] rfl rfl _ _ hz ndSize rfl (by simp [Value.oneCell']) ?_; intro w6 hz6 hc6))
    exact bodyPost_ret (results_row1 Tryz.results51 _ _ _ _ _ _ rfl hz6 ndDesc rfl ndSize) rfl (HO.out _ _ ⟨hc6.ext he0 (by omega), rfl⟩)
end Go.Proofs.YtolmoknjmdmpgaaGreat
