/-
  The walks of the helpers of package imap, and of the document's: pointers, slots, blocks and maps that may be. By an AI agent.
-/
import Derived.Test.YtpgibmffgliibaaImB
namespace Go.Proofs.Ytpgibmffgliibaa
open Go.RowKit Go.ChangeShapes Go.WideShapes Go.ChangeAt
open Im (Sl)

theorem ptrB_no1 {a : Int} {s : Nat} (h : ¬ 0 ≤ a) : Nd.ptrB (a, s) = false := by unfold Nd.ptrB; exact decide_eq_false (fun q => h q.1)
theorem ptrB_no2 {a : Int} {s : Nat} (h : ¬ a ≤ 2147483647) : Nd.ptrB (a, s) = false := by unfold Nd.ptrB; exact decide_eq_false (fun q => h q.2.1)
theorem ptrB_no3 {a : Int} {s : Nat} (h : ¬ 0 < a) (h1 : 0 ≤ a) (h0 : s ≠ 0) : Nd.ptrB (a, s) = false := by unfold Nd.ptrB; exact decide_eq_false (fun q => h0 (q.2.2 (by show a = 0; omega)))
theorem ptrB_yes1 {a : Int} {s : Nat} (h : 0 < a) (h2 : a ≤ 2147483647) : Nd.ptrB (a, s) = true := by unfold Nd.ptrB; exact decide_eq_true ⟨by show 0 ≤ a; omega, h2, fun q => absurd q (by show ¬ a = 0; omega)⟩
theorem ptrB_yes2 {a : Int} (h1 : 0 ≤ a) (h2 : a ≤ 2147483647) : Nd.ptrB (a, 0) = true := by unfold Nd.ptrB; exact decide_eq_true ⟨h1, h2, fun _ => rfl⟩
set_option maxHeartbeats 400000 in
theorem ptr_any (a : Int) (s : Nat) (w : World) :
    Calls Try.prog 26 #[.agg #[.int .i64 a, .int .u32 (s : Int)]] w fun e w' => e = .returned (.bool (Nd.ptrB (a, s))) ∧ Below w.heap.size w w' := by
  by_cases h1 : 0 ≤ a
  · by_cases h2 : a ≤ 2147483647
    · by_cases h3 : 0 < a
      · have H := Lib.hid (ptrB_yes1 (s := s) h3 h2)
        go_enter Try.func26, Try.ntmps26
        go_wp2
        go_ret
        exact ⟨by rw [H.out]; rfl, (Below.refl _ _).alloc (Nat.le_refl _) _⟩
      · by_cases h4 : s = 0
        · subst h4
          have H := Lib.hid (ptrB_yes2 h1 h2)
          go_enter Try.func26, Try.ntmps26
          go_wp2
          go_ret
          exact ⟨by rw [H.out]; rfl, (Below.refl _ _).alloc (Nat.le_refl _) _⟩
        · have H := Lib.hid (ptrB_no3 (s := s) h3 h1 h4)
          have h5 : ((s : Int) == 0) = false := by rw [beq_eq_false_iff_ne]; omega
          go_enter Try.func26, Try.ntmps26
          go_wp2
          go_ret
          exact ⟨by rw [H.out]; rfl, (Below.refl _ _).alloc (Nat.le_refl _) _⟩
    · have H := Lib.hid (ptrB_no2 (s := s) h2)
      go_enter Try.func26, Try.ntmps26
      go_wp2
      go_ret
      exact ⟨by rw [H.out]; rfl, (Below.refl _ _).alloc (Nat.le_refl _) _⟩
  · have H := Lib.hid (ptrB_no1 (s := s) h1)
    go_enter Try.func26, Try.ntmps26
    go_wp2
    go_ret
    exact ⟨by rw [H.out]; rfl, (Below.refl _ _).alloc (Nat.le_refl _) _⟩
set_option maxHeartbeats 400000 in
theorem rptr_any (a : Int) (s : Nat) (w : World) :
    Calls Try.prog 28 #[.agg #[.int .i64 a, .int .u32 (s : Int)]] w fun e w' => e = .returned (.bool (Nd.ptrB (a, s))) ∧ Below w.heap.size w w' := by
  by_cases h1 : 0 ≤ a
  · by_cases h2 : a ≤ 2147483647
    · by_cases h3 : 0 < a
      · have H := Lib.hid (ptrB_yes1 (s := s) h3 h2)
        go_enter Try.func28, Try.ntmps28
        go_wp2
        go_ret
        exact ⟨by rw [H.out]; rfl, (Below.refl _ _).alloc (Nat.le_refl _) _⟩
      · by_cases h4 : s = 0
        · subst h4
          have H := Lib.hid (ptrB_yes2 h1 h2)
          go_enter Try.func28, Try.ntmps28
          go_wp2
          go_ret
          exact ⟨by rw [H.out]; rfl, (Below.refl _ _).alloc (Nat.le_refl _) _⟩
        · have H := Lib.hid (ptrB_no3 (s := s) h3 h1 h4)
          have h5 : ((s : Int) == 0) = false := by rw [beq_eq_false_iff_ne]; omega
          go_enter Try.func28, Try.ntmps28
          go_wp2
          go_ret
          exact ⟨by rw [H.out]; rfl, (Below.refl _ _).alloc (Nat.le_refl _) _⟩
    · have H := Lib.hid (ptrB_no2 (s := s) h2)
      go_enter Try.func28, Try.ntmps28
      go_wp2
      go_ret
      exact ⟨by rw [H.out]; rfl, (Below.refl _ _).alloc (Nat.le_refl _) _⟩
  · have H := Lib.hid (ptrB_no1 (s := s) h1)
    go_enter Try.func28, Try.ntmps28
    go_wp2
    go_ret
    exact ⟨by rw [H.out]; rfl, (Below.refl _ _).alloc (Nat.le_refl _) _⟩
set_option maxHeartbeats 400000 in
theorem exists_any (x : Sl) (w : World) :
    Calls Try.prog 24 #[sagg x] w fun e w' => e = .returned (.bool (decide (0 < x.a))) ∧ Below w.heap.size w w' := by
  unfold sagg
  go_enter Try.func24, Try.ntmps24
  go_wp2
  go_ret
  exact ⟨rfl, (Below.refl _ _).alloc (Nat.le_refl _) _⟩
set_option maxRecDepth 100000 in
set_option maxHeartbeats 2000000 in
theorem slots_any (m : List Sl) (k : Nat) (w : World) (hm : m.length = 40) (hk : k < 4) :
    Calls Try.prog 30 #[magg m, .int .i64 (k : Int)] w fun e w' => e = .returned (magg (Im.blk m k)) ∧ Below w.heap.size w w' := by
  unfold magg
  rcases (by omega : k = 0 ∨ k = 1 ∨ k = 2 ∨ k = 3) with rfl | rfl | rfl | rfl
  · rw [show (((0 : Nat)) : Int) = 0 from rfl]
    go_enter Try.func30, Try.ntmps30
    go_upto_region 1 with (fail)
    have i0 := (Blk.new w 28 (mcells m).toArray)
    change Blk _ _ _ (mcells m) at i0
    have c0 := (Below.refl w.heap.size w).alloc (Nat.le_refl _) (.cells (mcells m).toArray 28)
    have hs0 : (w.alloc (.cells (mcells m).toArray 28)).heap.size = w.heap.size + 1 := World.size_alloc _ _
    generalize w.alloc (.cells (mcells m).toArray 28) = w0 at *
    obtain ⟨g0, hg0⟩ : ∃ g, g = w.heap.size := ⟨_, rfl⟩
    rw [← hg0] at i0 hs0 ⊢
    generalize hW : w0.alloc (.cells _ 63) = w1
    have j1 : Blk w1 w0.heap.size 63 (mcells (List.replicate 10 Sl.zero)) := by rw [← hW]; exact Blk.new w0 _ _
    have i1 : Blk w1 g0 28 (mcells m) := by rw [← hW]; exact i0.alloc _
    have c1 : Below w.heap.size w w1 := by rw [← hW]; exact c0.alloc c0.size _
    clear hW i0
    rw [hs0] at j1
    have hg2 : w.heap.size ≤ g0 + 1 := by omega
    clear hg0 hs0 c0
    have hat : ∀ W, (Instr.arrayAt 63 (.slice (some ⟨g0, 0, none⟩) 40 40)).run Try.prog W = .ok (.pointer (some ⟨g0, 0, none⟩)) W := fun W => run_arrayAt W 63 26 10 _ 40 40 Try.underlying63 (by decide)
    have hr := i1.rangeMid 0 (mcells (Im.blk m 0)) (by rw [mcells_len, Im.blk_len hm (by decide)]; exact mcells_blk m 0)
    go_wp2_with (first | refine wpList_load_at 63 (.tmp 8) rfl rfl g0 0 rfl (mcells (Im.blk m 0)) _ hr Try.underlying63 rfl (infoB _ (Im.blk_len hm (by decide))) ?_ | refine wpList_store_mid rfl 63 (.tmp 4) (.tmp 9) rfl (g0 + 1) 0 (mcells (Im.blk m 0)).toArray rfl rfl (j1.there 0 _ (by rw [List.size_toArray, mcells_len, mcells_len, Im.blk_len hm (by decide)]; decide)) (infoB _ (Im.blk_len hm (by decide))) (all_oneCell_toArray mcells_one) ?_)
    have hz := j1.setCells (mcells (Im.blk m 0)) 0 (by rw [mcells_len, mcells_len, Im.blk_len hm (by decide)]; decide)
    rw [spl_all _ _ (by rw [mcells_len, mcells_len, Im.blk_len hm (by decide)]; decide)] at hz
    have bz := below_setCells (o := 0) (vs := mcells (Im.blk m 0)) c1 hg2
    refine bodyPost_ret (v := magg (Im.blk m 0)) (res_cell1 (mcells (Im.blk m 0)) _ Try.results30 rfl hz.range Try.underlying63 rfl (infoB _ (Im.blk_len hm (by decide)))) rfl ?_
    exact ⟨rfl, bz⟩
  · rw [show (((1 : Nat)) : Int) = 1 from rfl]
    go_enter Try.func30, Try.ntmps30
    go_upto_region 1 with (fail)
    have i0 := (Blk.new w 28 (mcells m).toArray)
    change Blk _ _ _ (mcells m) at i0
    have c0 := (Below.refl w.heap.size w).alloc (Nat.le_refl _) (.cells (mcells m).toArray 28)
    have hs0 : (w.alloc (.cells (mcells m).toArray 28)).heap.size = w.heap.size + 1 := World.size_alloc _ _
    generalize w.alloc (.cells (mcells m).toArray 28) = w0 at *
    obtain ⟨g0, hg0⟩ : ∃ g, g = w.heap.size := ⟨_, rfl⟩
    rw [← hg0] at i0 hs0 ⊢
    generalize hW : w0.alloc (.cells _ 63) = w1
    have j1 : Blk w1 w0.heap.size 63 (mcells (List.replicate 10 Sl.zero)) := by rw [← hW]; exact Blk.new w0 _ _
    have i1 : Blk w1 g0 28 (mcells m) := by rw [← hW]; exact i0.alloc _
    have c1 : Below w.heap.size w w1 := by rw [← hW]; exact c0.alloc c0.size _
    clear hW i0
    rw [hs0] at j1
    have hg2 : w.heap.size ≤ g0 + 1 := by omega
    clear hg0 hs0 c0
    have hat : ∀ W, (Instr.arrayAt 63 (.slice (some ⟨g0, 30, none⟩) 30 30)).run Try.prog W = .ok (.pointer (some ⟨g0, 30, none⟩)) W := fun W => run_arrayAt W 63 26 10 _ 30 30 Try.underlying63 (by decide)
    have hr := i1.rangeMid 30 (mcells (Im.blk m 1)) (by rw [mcells_len, Im.blk_len hm (by decide)]; exact mcells_blk m 1)
    go_wp2_with (first | refine wpList_load_at 63 (.tmp 8) rfl rfl g0 30 rfl (mcells (Im.blk m 1)) _ hr Try.underlying63 rfl (infoB _ (Im.blk_len hm (by decide))) ?_ | refine wpList_store_mid rfl 63 (.tmp 4) (.tmp 9) rfl (g0 + 1) 0 (mcells (Im.blk m 1)).toArray rfl rfl (j1.there 0 _ (by rw [List.size_toArray, mcells_len, mcells_len, Im.blk_len hm (by decide)]; decide)) (infoB _ (Im.blk_len hm (by decide))) (all_oneCell_toArray mcells_one) ?_)
    have hz := j1.setCells (mcells (Im.blk m 1)) 0 (by rw [mcells_len, mcells_len, Im.blk_len hm (by decide)]; decide)
    rw [spl_all _ _ (by rw [mcells_len, mcells_len, Im.blk_len hm (by decide)]; decide)] at hz
    have bz := below_setCells (o := 0) (vs := mcells (Im.blk m 1)) c1 hg2
    refine bodyPost_ret (v := magg (Im.blk m 1)) (res_cell1 (mcells (Im.blk m 1)) _ Try.results30 rfl hz.range Try.underlying63 rfl (infoB _ (Im.blk_len hm (by decide)))) rfl ?_
    exact ⟨rfl, bz⟩
  · rw [show (((2 : Nat)) : Int) = 2 from rfl]
    go_enter Try.func30, Try.ntmps30
    go_upto_region 1 with (fail)
    have i0 := (Blk.new w 28 (mcells m).toArray)
    change Blk _ _ _ (mcells m) at i0
    have c0 := (Below.refl w.heap.size w).alloc (Nat.le_refl _) (.cells (mcells m).toArray 28)
    have hs0 : (w.alloc (.cells (mcells m).toArray 28)).heap.size = w.heap.size + 1 := World.size_alloc _ _
    generalize w.alloc (.cells (mcells m).toArray 28) = w0 at *
    obtain ⟨g0, hg0⟩ : ∃ g, g = w.heap.size := ⟨_, rfl⟩
    rw [← hg0] at i0 hs0 ⊢
    generalize hW : w0.alloc (.cells _ 63) = w1
    have j1 : Blk w1 w0.heap.size 63 (mcells (List.replicate 10 Sl.zero)) := by rw [← hW]; exact Blk.new w0 _ _
    have i1 : Blk w1 g0 28 (mcells m) := by rw [← hW]; exact i0.alloc _
    have c1 : Below w.heap.size w w1 := by rw [← hW]; exact c0.alloc c0.size _
    clear hW i0
    rw [hs0] at j1
    have hg2 : w.heap.size ≤ g0 + 1 := by omega
    clear hg0 hs0 c0
    have hat : ∀ W, (Instr.arrayAt 63 (.slice (some ⟨g0, 60, none⟩) 20 20)).run Try.prog W = .ok (.pointer (some ⟨g0, 60, none⟩)) W := fun W => run_arrayAt W 63 26 10 _ 20 20 Try.underlying63 (by decide)
    have hr := i1.rangeMid 60 (mcells (Im.blk m 2)) (by rw [mcells_len, Im.blk_len hm (by decide)]; exact mcells_blk m 2)
    go_wp2_with (first | refine wpList_load_at 63 (.tmp 8) rfl rfl g0 60 rfl (mcells (Im.blk m 2)) _ hr Try.underlying63 rfl (infoB _ (Im.blk_len hm (by decide))) ?_ | refine wpList_store_mid rfl 63 (.tmp 4) (.tmp 9) rfl (g0 + 1) 0 (mcells (Im.blk m 2)).toArray rfl rfl (j1.there 0 _ (by rw [List.size_toArray, mcells_len, mcells_len, Im.blk_len hm (by decide)]; decide)) (infoB _ (Im.blk_len hm (by decide))) (all_oneCell_toArray mcells_one) ?_)
    have hz := j1.setCells (mcells (Im.blk m 2)) 0 (by rw [mcells_len, mcells_len, Im.blk_len hm (by decide)]; decide)
    rw [spl_all _ _ (by rw [mcells_len, mcells_len, Im.blk_len hm (by decide)]; decide)] at hz
    have bz := below_setCells (o := 0) (vs := mcells (Im.blk m 2)) c1 hg2
    refine bodyPost_ret (v := magg (Im.blk m 2)) (res_cell1 (mcells (Im.blk m 2)) _ Try.results30 rfl hz.range Try.underlying63 rfl (infoB _ (Im.blk_len hm (by decide)))) rfl ?_
    exact ⟨rfl, bz⟩
  · rw [show (((3 : Nat)) : Int) = 3 from rfl]
    go_enter Try.func30, Try.ntmps30
    go_upto_region 1 with (fail)
    have i0 := (Blk.new w 28 (mcells m).toArray)
    change Blk _ _ _ (mcells m) at i0
    have c0 := (Below.refl w.heap.size w).alloc (Nat.le_refl _) (.cells (mcells m).toArray 28)
    have hs0 : (w.alloc (.cells (mcells m).toArray 28)).heap.size = w.heap.size + 1 := World.size_alloc _ _
    generalize w.alloc (.cells (mcells m).toArray 28) = w0 at *
    obtain ⟨g0, hg0⟩ : ∃ g, g = w.heap.size := ⟨_, rfl⟩
    rw [← hg0] at i0 hs0 ⊢
    generalize hW : w0.alloc (.cells _ 63) = w1
    have j1 : Blk w1 w0.heap.size 63 (mcells (List.replicate 10 Sl.zero)) := by rw [← hW]; exact Blk.new w0 _ _
    have i1 : Blk w1 g0 28 (mcells m) := by rw [← hW]; exact i0.alloc _
    have c1 : Below w.heap.size w w1 := by rw [← hW]; exact c0.alloc c0.size _
    clear hW i0
    rw [hs0] at j1
    have hg2 : w.heap.size ≤ g0 + 1 := by omega
    clear hg0 hs0 c0
    have hat : ∀ W, (Instr.arrayAt 63 (.slice (some ⟨g0, 90, none⟩) 10 10)).run Try.prog W = .ok (.pointer (some ⟨g0, 90, none⟩)) W := fun W => run_arrayAt W 63 26 10 _ 10 10 Try.underlying63 (by decide)
    have hr := i1.rangeMid 90 (mcells (Im.blk m 3)) (by rw [mcells_len, Im.blk_len hm (by decide)]; exact mcells_blk m 3)
    go_wp2_with (first | refine wpList_load_at 63 (.tmp 8) rfl rfl g0 90 rfl (mcells (Im.blk m 3)) _ hr Try.underlying63 rfl (infoB _ (Im.blk_len hm (by decide))) ?_ | refine wpList_store_mid rfl 63 (.tmp 4) (.tmp 9) rfl (g0 + 1) 0 (mcells (Im.blk m 3)).toArray rfl rfl (j1.there 0 _ (by rw [List.size_toArray, mcells_len, mcells_len, Im.blk_len hm (by decide)]; decide)) (infoB _ (Im.blk_len hm (by decide))) (all_oneCell_toArray mcells_one) ?_)
    have hz := j1.setCells (mcells (Im.blk m 3)) 0 (by rw [mcells_len, mcells_len, Im.blk_len hm (by decide)]; decide)
    rw [spl_all _ _ (by rw [mcells_len, mcells_len, Im.blk_len hm (by decide)]; decide)] at hz
    have bz := below_setCells (o := 0) (vs := mcells (Im.blk m 3)) c1 hg2
    refine bodyPost_ret (v := magg (Im.blk m 3)) (res_cell1 (mcells (Im.blk m 3)) _ Try.results30 rfl hz.range Try.underlying63 rfl (infoB _ (Im.blk_len hm (by decide)))) rfl ?_
    exact ⟨rfl, bz⟩
theorem idx_sl (b : List Sl) (hb : b.length = 10) (k : Nat) (hk : k < 10) (W : World) :
    (Instr.index 63 (.agg (mcells b).toArray) (.int .i64 (k : Int))).run Try.prog W = .ok (sagg (b.getD k Sl.zero)) W := by
  obtain ⟨i, hi⟩ : ∃ i, Try.prog.info? 26 = some i := Option.isSome_iff_exists.1 (by kernel_rfl)
  have := run_idx 4 Try.underlying63 chkSlot hi (mcells b) k hk (by rw [cellsSlot, mcells_len]; omega) _ rfl W
  rw [this, cellsSlot]
  have e : ((mcells b).drop (k * 3)).take 3 = scells (b.getD k Sl.zero) := by
    rw [Nat.mul_comm, mcells_drop, show 3 = 3 * 1 from rfl, mcells_take]
    have hd : b.drop k = b.getD k Sl.zero :: b.drop (k + 1) := by
      rw [List.drop_eq_getElem_cons (by omega)]
      congr 1
      simp [List.getD, hb, hk]
    rw [hd]
    rfl
  rw [e]
  unfold mkV
  rw [Try.underlying26]
  rfl
theorem scells_inj (x y : Sl) : scells x = scells y ↔ x = y := by
  constructor
  · intro h
    have := mcells_inj [x] [y] (by rw [mcells_cons, mcells_cons]; exact h)
    exact (List.cons.inj this).1
  · rintro rfl; rfl
theorem kin_scells (x y : Sl) : Kin (scells x) (scells y) := kin_mcells [x] [y]
theorem run_eql_sl (x y : Sl) (b : Bool) (hb : b = decide (x = y)) (W : World) :
    (binOp .eql 26 (.agg (scells x).toArray) (.agg (scells y).toArray)).run Try.prog W = .ok (.bool b) W ∧ (binOp .neq 26 (.agg (scells x).toArray) (.agg (scells y).toArray)).run Try.prog W = .ok (.bool (!b)) W := by
  refine run_eql_cells 4 chkSlot (by decide) (by kernel_rfl) (scells x) (scells y) (by rw [cellsSlot]; rfl) (by rw [cellsSlot]; rfl) (kin_scells x y) W b ?_
  rw [hb, decide_eq_true_iff, scells_inj]
theorem eqGuardS : Try.prog.eqGuardType Try.prog.depth 26 = false := by kernel_rfl
theorem eqGuardM : Try.prog.eqGuardType Try.prog.depth 28 = false := by kernel_rfl
theorem chkImap : chkT Try.prog 5 28 = true := by kernel_rfl
theorem cellsImap : Try.prog.cellsOf 28 = 120 := by kernel_rfl
theorem run_eql_im (x y : List Sl) (hx : x.length = 40) (hy : y.length = 40) (b : Bool) (hb : b = decide (x = y)) (W : World) :
    (binOp .eql 28 (.agg (mcells x).toArray) (.agg (mcells y).toArray)).run Try.prog W = .ok (.bool b) W ∧ (binOp .neq 28 (.agg (mcells x).toArray) (.agg (mcells y).toArray)).run Try.prog W = .ok (.bool (!b)) W := by
  refine run_eql_cells 5 chkImap (by decide) (by kernel_rfl) _ _ (by rw [mcells_len, hx, cellsImap]) (by rw [mcells_len, hy, cellsImap]) (kin_mcells x y) W b ?_
  rw [hb, decide_eq_true_iff]
  exact ⟨fun h => by rw [h], mcells_inj x y⟩
theorem blkB_no {b : List Sl} {j : Nat} (k : Int) (hj : j < b.length) (h : Im.slB (b.getD j Sl.zero) = false) : Im.blkB b k = false := by
  unfold Im.blkB
  have : b.all Im.slB = false := by
    cases hb : b.all Im.slB with
    | false => rfl
    | true =>
      have := List.all_eq_true.1 hb _ (Im.getD_mem hj)
      rw [h] at this
      cases this
  rw [this]; rfl
theorem mayB_no {m : List Sl} {j : Nat} (hj : j < m.length) (h : Im.slB (m.getD j Sl.zero) = false) : Im.mayB m = false := by
  unfold Im.mayB
  have : m.all Im.slB = false := by
    cases hb : m.all Im.slB with
    | false => rfl
    | true =>
      have := List.all_eq_true.1 hb _ (Im.getD_mem hj)
      rw [h] at this
      cases this
  rw [this]; rfl
theorem all_snoc {b : List Sl} {j : Nat} (hj : j < b.length) (h1 : (b.take j).all Im.slB = true) (h2 : Im.slB (b.getD j Sl.zero) = true) : (b.take (j + 1)).all Im.slB = true := by
  have e : b.getD j Sl.zero = b[j] := by simp [List.getD, hj]
  rw [e] at h2
  rw [List.take_succ_eq_append_getElem hj, List.all_append, h1]
  simp [h2]
theorem slB_mk (y : Sl) : Im.slB y = (Nd.ptrB (y.a, y.s) && decide (0 ≤ y.v ∧ y.v ≤ 2147483647)) := rfl
set_option maxRecDepth 100000 in
set_option maxHeartbeats 2000000 in
theorem mayBlk_any (b : List Sl) (k : Int) (w : World) (hb : b.length = 10) :
    Calls Try.prog 31 #[magg b, .int .i64 k] w fun e w' => e = .returned (.bool (Im.blkB b k)) ∧ Below w.heap.size w w' := by
  unfold magg
  go_enter Try.func31, Try.ntmps31
  go_upto_region 1 with (fail)
  have i0 := Blk.new w 63 (mcells b).toArray
  have c0 := (Below.refl w.heap.size w).alloc (Nat.le_refl _) (.cells (mcells b).toArray 63)
  change Blk _ _ _ (mcells b) at i0
  generalize w.alloc (.cells (mcells b).toArray 63) = w0 at *
  generalize w.heap.size = g2 at i0 ⊢
  have hr := i0.range
  go_wp2_with (refine wpList_load_at 63 (.tmp 2) rfl rfl g2 0 rfl (mcells b) _ hr Try.underlying63 rfl (infoB _ hb) ?_)
  clear hr
  go_loopw [8] (fun i wr => ∃ j : Nat, j ≤ 10 ∧ i = .int .i64 j ∧ Hid ((b.take j).all Im.slB = true) ∧ Blk wr g2 63 (mcells b) ∧ Below w.heap.size w wr) (fun i _ => 10 - (intOf i).toNat)
  case atStart => exact ⟨0, by omega, rfl, Lib.hid rfl, i0, c0⟩
  case round =>
    obtain ⟨j, hj, rfl, HA, i1, c1⟩ := hrel
    clear i0 c0
    by_cases hlt : j < 10
    · have hix := idx_sl b hb j hlt
      have HN1 := Lib.hid (fun h => blkB_no (b := b) (j := j) k (by omega) h)
      have HY1 := Lib.hid (fun h => all_snoc (b := b) (j := j) (by omega) HA.out h)
      have HSL := Lib.hid (slB_mk (b.getD j Sl.zero))
      generalize b.getD j Sl.zero = y at *
      unfold sagg at hix
      go_upto_region 4 with (fail)
      clear hix
      have kx := Blk.new wr 26 #[.int .i64 y.a, .int .u32 (y.s : Int), .int .i64 y.v]
      have c2 := c1.alloc c1.size (.cells #[.int .i64 y.a, .int .u32 (y.s : Int), .int .i64 y.v] 26)
      have i2 := i1.alloc (.cells #[.int .i64 y.a, .int .u32 (y.s : Int), .int .i64 y.v] 26)
      generalize wr.alloc (.cells #[.int .i64 y.a, .int .u32 (y.s : Int), .int .i64 y.v] 26) = w3 at *
      generalize wr.heap.size = gx at kx ⊢
      have x0 := kx.cell 0
      have x1 := kx.cell 1
      have x2 := kx.cell 2
      simp only [List.getElem?_cons_zero, List.getElem?_cons_succ] at x0 x1 x2
      clear i1 c1
      go_wp2_with fail
      refine (ptr_any y.a y.s _).mono ?_
      rintro e w4 ⟨rfl, b4⟩
      have i4 := i2.ext b4
      have c4 := c2.trans (b4.mono c2.size)
      have x2 := (kx.ext b4).cell 2
      simp only [List.getElem?_cons_zero, List.getElem?_cons_succ] at x2
      clear x0 x1 kx i2 c2 b4
      cases hp : Nd.ptrB (y.a, y.s) with
      | false =>
        have HN := Lib.hid (HN1.out (by rw [HSL.out, hp]; rfl))
        clear hp
        go_wp2
        go_ret
        exact ⟨by rw [HN.out]; rfl, c4⟩
      | true =>
        by_cases hv0 : 0 ≤ y.v
        · by_cases hv1 : y.v ≤ 2147483647
          · have HY := Lib.hid (HY1.out (by rw [HSL.out, hp, decide_eq_true ⟨hv0, hv1⟩]; rfl))
            clear hp
            go_wp2
            go_roundw
            case rel => exact ⟨j + 1, by omega, by go_num, HY, i4, c4⟩
            case measure => simp [intOf]; omega
          · have HN := Lib.hid (HN1.out (by rw [HSL.out, hp, decide_eq_false (fun q => hv1 q.2)]; rfl))
            clear hp
            go_wp2
            go_ret
            exact ⟨by rw [HN.out]; rfl, c4⟩
        · have HN := Lib.hid (HN1.out (by rw [HSL.out, hp, decide_eq_false (fun q => hv0 q.1)]; rfl))
          clear hp
          go_wp2
          go_ret
          exact ⟨by rw [HN.out]; rfl, c4⟩
    · obtain rfl : j = 10 := by omega
      have hall := HA.out
      rw [List.take_of_length_le (by omega)] at hall
      have HE := Lib.hid (show Im.blkB b k = (decide (0 < k) || decide (b.getD 0 Sl.zero = Sl.zero)) by unfold Im.blkB; rw [hall]; rfl)
      clear hall HA
      rw [show (((10 : Nat)) : Int) = 10 from rfl]
      by_cases hk : 0 < k
      · have HE2 := Lib.hid (show Im.blkB b k = true by rw [HE.out, decide_eq_true hk]; rfl)
        go_wp2
        go_ret
        exact ⟨by rw [HE2.out]; rfl, c1⟩
      · have hr := i1.rangeMid 0 (scells (b.getD 0 Sl.zero)) (by
          have := mcells_take b 1
          rw [List.drop_zero]
          show _ = (mcells b).take (3 * 1)
          rw [this]
          match b, hb with
          | x :: b, _ => rfl)
        have HD := Lib.hid (show Im.blkB b k = decide (b.getD 0 Sl.zero = Sl.zero) by rw [HE.out, decide_eq_false hk]; rfl)
        generalize b.getD 0 Sl.zero = y at *
        have hrun := fun W => (run_eql_sl y Sl.zero _ rfl W).1
        obtain ⟨r, hrr⟩ : ∃ r, decide (y = Sl.zero) = r := ⟨_, rfl⟩
        rw [hrr] at hrun
        have HRR := Lib.hid hrr
        clear hrr
        go_wp2_with (first | refine wpList_load_at 26 (.tmp 29) rfl rfl g2 0 rfl (scells y) _ hr Try.underlying26 rfl (infoS y) ?_ | refine wpList_binop .eql 26 26 (.tmp 30) (.tmp 31) rfl rfl rfl rfl eqGuardS (hrun _) ?_)
        go_ret
        exact ⟨by rw [HD.out, HRR.out]; rfl, c1⟩
set_option maxRecDepth 100000 in
set_option maxHeartbeats 2000000 in
theorem mayM_any (m : List Sl) (w : World) (hm : m.length = 40) :
    Calls Try.prog 18 #[magg m] w fun e w' => e = .returned (.bool (Im.mayB m)) ∧ Below w.heap.size w w' := by
  unfold magg
  go_enter Try.func18, Try.ntmps18
  go_upto_region 1 with (fail)
  have i0 := Blk.new w 28 (mcells m).toArray
  have c0 := (Below.refl w.heap.size w).alloc (Nat.le_refl _) (.cells (mcells m).toArray 28)
  change Blk _ _ _ (mcells m) at i0
  generalize w.alloc (.cells (mcells m).toArray 28) = w0 at *
  generalize w.heap.size = g1 at i0 ⊢
  go_wp2
  go_loopw [4] (fun i wr => ∃ j : Nat, j ≤ 4 ∧ i = .int .i64 j ∧ Hid (∀ q, q < j → Im.blkB (Im.blk m q) q = true) ∧ Blk wr g1 28 (mcells m) ∧ Below w.heap.size w wr) (fun i _ => 4 - (intOf i).toNat)
  case atStart => exact ⟨0, by omega, rfl, Lib.hid (fun q hq => absurd hq (by omega)), i0, c0⟩
  case round =>
    obtain ⟨j, hj, rfl, HA, i1, c1⟩ := hrel
    clear i0 c0
    have HM := Lib.hid (Im.may_blks hm)
    by_cases hlt : j < 4
    · have hr := i1.range
      go_wp2_with (refine wpList_load_at 28 (.tmp 1) rfl rfl g1 0 rfl (mcells m) _ hr Try.underlying28 rfl (infoM _ hm) ?_)
      refine (slots_any m j _ hm hlt).mono ?_
      rintro e w2 ⟨rfl, b2⟩
      have i2 := i1.ext b2
      have c2 := c1.trans (b2.mono c1.size)
      clear hr i1 c1 b2
      go_wp2_with fail
      refine (mayBlk_any (Im.blk m j) j _ (Im.blk_len hm hlt)).mono ?_
      rintro e w3 ⟨rfl, b3⟩
      have i3 := i2.ext b3
      have c3 := c2.trans (b3.mono c2.size)
      clear i2 c2 b3
      cases hb : Im.blkB (Im.blk m j) j with
      | false =>
        have HN := Lib.hid (show Im.mayB m = false by
          rw [HM.out]
          cases h : (List.range 4).all fun k => Im.blkB (Im.blk m k) k with
          | false => rfl
          | true =>
            have := List.all_eq_true.1 h j (List.mem_range.2 hlt)
            rw [hb] at this
            cases this)
        clear hb
        go_wp2
        go_ret
        exact ⟨by rw [HN.out]; rfl, c3⟩
      | true =>
        have HB := Lib.hid (show ∀ q, q < j + 1 → Im.blkB (Im.blk m q) q = true from fun q hq => by
          by_cases e : q = j
          · rw [e]; exact hb
          · exact HA.out q (by omega))
        clear hb
        go_wp2
        go_roundw
        case rel => exact ⟨j + 1, by omega, by go_num, HB, i3, c3⟩
        case measure => simp [intOf]; omega
    · obtain rfl : j = 4 := by omega
      have HY := Lib.hid (show Im.mayB m = true by
        rw [HM.out]
        exact List.all_eq_true.2 fun k hk => HA.out k (List.mem_range.1 hk))
      rw [show (((4 : Nat)) : Int) = 4 from rfl]
      go_wp2
      go_ret
      exact ⟨by rw [HY.out]; rfl, c1⟩
end Go.Proofs.Ytpgibmffgliibaa
