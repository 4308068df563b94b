/- The walk of the program's Encode. -/
import Derived.Test.YtpefkjhiaflonaaGreatW7
set_option linter.unusedSimpArgs false
set_option linter.unusedVariables false
namespace Go.Proofs.YtpefkjhiaflonaaGreat
open Go.RowKit Dsd

/-- A page that holds contents and fields. -/
def pageBytes (C F : List UInt8) (g : Nat) : List UInt8 := C ++ (List.replicate g 0 ++ (F ++ [0, 0, 0, 0]))
theorem set_mid (A B : List UInt8) (x y : UInt8) (k : Nat) (hk : k = A.length) : (A ++ x :: B).set k y = A ++ y :: B := by
  subst hk
  rw [List.set_append_right _ _ (Nat.le_refl _)]
  simp
theorem pageBytes_field (C F : List UInt8) (g c x : Nat) : layField (pageBytes C F (g + 3)) (C.length + g) c x = pageBytes C (fieldL c x ++ F) g := by
  have e : List.replicate (g + 3) (0 : UInt8) = List.replicate g 0 ++ [0, 0, 0] := by rw [← List.replicate_append_replicate]; rfl
  unfold layField pageBytes
  rw [e]
  have h1 : C ++ (List.replicate g (0 : UInt8) ++ [0, 0, 0] ++ (F ++ [0, 0, 0, 0])) = (C ++ List.replicate g 0) ++ 0 :: (0 :: 0 :: (F ++ [0, 0, 0, 0])) := by simp
  rw [h1, set_mid _ _ _ _ _ (by simp)]
  have h2 : (C ++ List.replicate g (0 : UInt8)) ++ UInt8.ofNat c :: (0 :: 0 :: (F ++ [0, 0, 0, 0])) = (C ++ List.replicate g 0 ++ [UInt8.ofNat c]) ++ 0 :: (0 :: (F ++ [0, 0, 0, 0])) := by simp
  rw [h2, set_mid _ _ _ _ _ (by simp; omega)]
  have h3 : (C ++ List.replicate g (0 : UInt8) ++ [UInt8.ofNat c]) ++ UInt8.ofNat x :: (0 :: (F ++ [0, 0, 0, 0])) = (C ++ List.replicate g 0 ++ [UInt8.ofNat c, UInt8.ofNat x]) ++ 0 :: (F ++ [0, 0, 0, 0]) := by simp
  rw [h3, set_mid _ _ _ _ _ (by simp; omega)]
  simp [fieldL]
theorem pageBytes_put (C F s : List UInt8) (g : Nat) : layOver (pageBytes C F (s.length + g)) C.length s = pageBytes (C ++ s) F g := by
  unfold layOver pageBytes
  rw [List.take_append_of_le_length (Nat.le_refl _), List.take_length]
  have h : C ++ (List.replicate (s.length + g) (0 : UInt8) ++ (F ++ [0, 0, 0, 0])) = (C ++ List.replicate s.length 0) ++ (List.replicate g 0 ++ (F ++ [0, 0, 0, 0])) := by
    rw [← List.replicate_append_replicate]; simp only [List.append_assoc]
  have hl : C.length + s.length = (C ++ List.replicate s.length (0 : UInt8)).length := by simp
  rw [h, hl, List.drop_left]
theorem pageBytes_tail (C F : List UInt8) (g n : Nat) (hn : n = C.length + g + F.length + 4) : layTail (pageBytes C F g) n C.length g = C ++ List.replicate g 0 ++ F ++ tailL C.length g := by
  unfold layTail pageBytes
  have h1 : C ++ (List.replicate g (0 : UInt8) ++ (F ++ [0, 0, 0, 0])) = (C ++ List.replicate g 0 ++ F) ++ 0 :: [0, 0, 0] := by simp
  rw [h1, set_mid _ _ _ _ _ (by simp; omega)]
  have h2 : ∀ a : UInt8, (C ++ List.replicate g 0 ++ F) ++ a :: [0, 0, 0] = (C ++ List.replicate g 0 ++ F ++ [a]) ++ 0 :: [0, 0] := by intro a; simp
  rw [h2, set_mid _ _ _ _ _ (by simp; omega)]
  have h3 : ∀ a b : UInt8, (C ++ List.replicate g 0 ++ F ++ [a]) ++ b :: [0, 0] = (C ++ List.replicate g 0 ++ F ++ [a, b]) ++ 0 :: [0] := by intro a b; simp
  rw [h3, set_mid _ _ _ _ _ (by simp; omega)]
  have h4 : ∀ a b c : UInt8, (C ++ List.replicate g 0 ++ F ++ [a, b]) ++ c :: [0] = (C ++ List.replicate g 0 ++ F ++ [a, b, c]) ++ 0 :: [] := by intro a b c; simp
  rw [h4, set_mid _ _ _ _ _ (by simp; omega)]
  simp [tailL]
theorem length_pageBytes (C F : List UInt8) (g : Nat) : (pageBytes C F g).length = C.length + g + F.length + 4 := by simp [pageBytes]; omega
theorem runFields_snoc (rs : List (Nat × Nat)) (r : Nat × Nat) : runFields (rs ++ [r]) = runField r ++ runFields rs := by simp [runFields]

set_option maxRecDepth 100000 in
theorem newPage_any (n : Nat) (h4 : 4 ≤ n) (hn : n ≤ 512) (w : World) :
    Calls Tryz.prog 68 #[.int .i64 n] w fun e w' => e = .returned (.pointer (some ⟨w.heap.size + 1, 0, none⟩)) ∧ Ext w w' ∧ w'.heap.size = w.heap.size + 2 ∧ Page w' (w.heap.size + 1) w.heap.size n (n - 4) 0 (List.replicate n 0) := by
  obtain ⟨i0, hi, hz0, hz1, hz2⟩ := info_parts infoByte
  have hmk := run_make_bytes (P := Tryz.prog) w 86 5 i0 n Tryz.underlying86 hi hz0 hz1 hz2 (by omega)
  clear hi hz0 hz1 hz2
  have HB : Hid (∀ B, Blk (w.alloc (.cells (byteCells (List.replicate n 0)) 5)) w.heap.size B → True) := Lib.hid (fun _ _ => trivial)
  go_enter Tryz.func68, Tryz.ntmps68
  go_wp2
  go_ret
  have e4 : ((n : Int) - 4) = ((n - 4 : Nat) : Int) := by omega
  rw [e4]
  refine ⟨rfl, (Ext.alloc _ _).trans (Ext.alloc _ _), by simp, ⟨?_, ?_, by simp, by omega⟩⟩
  · have := Blk.new (w.alloc (.cells (byteCells (List.replicate n 0)) 5)) (.cells #[.slice (some ⟨w.heap.size, 0, none⟩) n n, .int .i64 ((n - 4 : Nat) : Int), .int .i64 ((0 : Nat) : Int)] 142)
    simpa using this
  · exact Blk.alloc (Blk.new w _) _

/-- The states of Encode's closure: p's variable, and the page behind it. -/
structure EncI (w : World) (pb px bb n : Nat) (done : List (Nat × Nat)) (W : World) : Prop where
  ext : Ext w W
  pg : w.heap.size ≤ px
  row : w.heap.size ≤ bb
  var : W.cell? ⟨pb, 0, none⟩ = some (.pointer (some ⟨px, 0, none⟩))
  lt : pb < W.heap.size
  nepx : pb ≠ px
  nebb : pb ≠ bb
  page : Page W px bb n (n - 4 - (runFields done).length) 0 (pageBytes [] (runFields done) (n - 4 - (runFields done).length))

theorem EncI.only {w : World} {pb px bb n : Nat} {done : List (Nat × Nat)} {W W' : World} (h : EncI w pb px bb n done W) (o : Only px bb W W') : Ext w W' ∧ W'.cell? ⟨pb, 0, none⟩ = some (.pointer (some ⟨px, 0, none⟩)) ∧ pb < W'.heap.size := by
  refine ⟨o.ext h.ext h.pg h.row, ?_, Nat.lt_of_lt_of_le h.lt o.size⟩
  rw [World.cell?_of_block (w := W) (o.block pb h.lt h.nepx h.nebb)]
  exact h.var

set_option maxRecDepth 100000 in
set_option maxHeartbeats 1000000 in
theorem Encode1_any (w : World) (pb px bb n : Nat) (done : List (Nat × Nat)) (k len : Nat) (hn : n ≤ 512) (hk : 1 ≤ k) (hk2 : k ≤ 65535) (hl : len ≤ 65535) (hroom : (runFields (done ++ [(k, len)])).length + 4 ≤ n) (W : World) (h : EncI w pb px bb n done W) :
    Calls Tryz.prog 70 #[.int .i64 k, .int .i64 len, .pointer (some ⟨pb, 0, none⟩)] W fun e W' => e = .returned (.tuple #[]) ∧ EncI w pb px bb n (done ++ [(k, len)]) W' := by
  rw [runFields_snoc, List.length_append, length_runField] at hroom
  simp only at hroom
  have hv := h.var
  have HH := Lib.hid h
  by_cases h1 : k = 1
  · subst h1
    simp at hroom
    obtain ⟨g, hg⟩ : ∃ g, n - 4 - (runFields done).length = g + 3 := ⟨n - 4 - (runFields done).length - 3, by omega⟩
    have hp := h.page
    rw [hg] at hp
    have hf := field_pg px bb n (g + 3) 0 (pageBytes [] (runFields done) (g + 3)) 0 len (by omega) (by omega) hn (by omega) hl W hp
    have Hf := Lib.hid hf
    clear h hp hf
    go_enter Tryz.func70, Tryz.ntmps70
    go_wp2_with fail
    refine Hf.out.mono ?_
    rintro e W1 ⟨rfl, hp1, ho1⟩
    obtain ⟨q1, q2, q3⟩ := HH.out.only ho1
    go_wp2
    refine bodyPost_ret (results_none rfl _ _ _) rfl ?_
    refine ⟨rfl, ⟨q1, HH.out.pg, HH.out.row, q2, q3, HH.out.nepx, HH.out.nebb, ?_⟩⟩
    have e0 := pageBytes_field [] (runFields done) g 0 len
    simp only [List.length_nil, Nat.zero_add, Nat.add_sub_cancel] at e0 hp1
    rw [e0] at hp1
    have e1 : runFields (done ++ [(1, len)]) = fieldL 0 len ++ runFields done := by rw [runFields_snoc]; simp [runField]
    rw [e1]
    have e2 : n - 4 - (fieldL 0 len ++ runFields done).length = g := by simp [length_fieldL]; omega
    rw [e2]
    exact hp1
  · have hk1 : 1 < k := by omega
    rw [if_pos hk1] at hroom
    have hkI : ((k : Int) == 1) = false := by simp; omega
    obtain ⟨g, hg⟩ : ∃ g, n - 4 - (runFields done).length = g + 3 + 3 := ⟨n - 4 - (runFields done).length - 6, by omega⟩
    have hp := h.page
    rw [hg] at hp
    have hf := field_pg px bb n (g + 3 + 3) 0 (pageBytes [] (runFields done) (g + 3 + 3)) 64 len (by omega) (by omega) hn (by omega) hl W hp
    have Hf := Lib.hid hf
    clear h hp hf h1
    go_enter Tryz.func70, Tryz.ntmps70
    go_wp2_with fail
    refine Hf.out.mono ?_
    rintro e W1 ⟨rfl, hp1, ho1⟩
    obtain ⟨q1, q2, q3⟩ := HH.out.only ho1
    have e0 := pageBytes_field [] (runFields done) (g + 3) 64 len
    simp only [List.length_nil, Nat.zero_add, Nat.add_sub_cancel] at e0 hp1
    rw [e0] at hp1
    have hf2 := field_pg px bb n (g + 3) 0 (pageBytes [] (fieldL 64 len ++ runFields done) (g + 3)) 8 k (by omega) (by omega) hn (by omega) hk2 W1 hp1
    have Hf2 := Lib.hid hf2
    have Ho := Lib.hid ho1
    clear hp1 hf2 ho1 e0
    go_wp2_with fail
    refine Hf2.out.mono ?_
    rintro e W2 ⟨rfl, hp2, ho2⟩
    obtain ⟨r1, r2, r3⟩ := HH.out.only (Ho.out.trans ho2)
    go_wp2
    go_end0
    refine ⟨rfl, ⟨r1, HH.out.pg, HH.out.row, r2, r3, HH.out.nepx, HH.out.nebb, ?_⟩⟩
    have e0 := pageBytes_field [] (fieldL 64 len ++ runFields done) g 8 k
    simp only [List.length_nil, Nat.zero_add, Nat.add_sub_cancel] at e0 hp2
    rw [e0] at hp2
    have e1 : runFields (done ++ [(k, len)]) = fieldL 8 k ++ (fieldL 64 len ++ runFields done) := by rw [runFields_snoc]; simp [runField, hk1]
    rw [e1]
    have e2 : n - 4 - (fieldL 8 k ++ (fieldL 64 len ++ runFields done)).length = g := by simp [length_fieldL]; omega
    rw [e2]
    exact hp2

theorem enc_doer (p : Option Addr) (L : List (List UInt8)) (w : World) (pb px bb n : Nat) (hn : n ≤ 512) (hs : Strs w p L) (ha : allowedB L = true) (hsz : sizeL L ≤ n) : Doer 70 #[.pointer (some ⟨pb, 0, none⟩)] p L (EncI w pb px bb n) where
  call := fun args W => by simp [callFunc, Tryz.func70]; kernel_rfl
  drawn := fun done W k h => ⟨h.ext.trans (Ext.drewN W k), h.pg, h.row, h.var, h.lt, h.nepx, h.nebb, h.page.drewN k⟩
  reads := fun done W h => hs.ext h.ext
  step := fun done k len rest W hr h => by
    have hmem : (k, len) ∈ runsL L := by rw [hr]; simp
    have h1 := runs_pos L _ hmem
    have h2 := runs_count (runsL L) (runs_pos L)
    rw [flatRuns_runs, List.length_map] at h2
    have h3 := h2.2 _ hmem
    obtain ⟨s, hs1, hs2⟩ := runs_len_mem L _ hmem
    have h4 := allowed_mem ha hs1
    have h5 := allowed_count ha
    have h6 : fieldsL L = runFields (rest) ++ runFields (done ++ [(k, len)]) := by
      rw [fieldsL_runs, hr]; simp [runFields]
    have h7 := congrArg List.length h6
    rw [List.length_append] at h7
    unfold sizeL at hsz
    simp only at h1 h3 hs2
    exact Encode1_any w pb px bb n done k len hn h1 (by omega) (by omega) (by omega) W h
end Go.Proofs.YtpefkjhiaflonaaGreat
