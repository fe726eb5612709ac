/-
  The walk of awake, of the statements on maps. By an AI agent.
-/
import Derived.Test.YtpgibmffgliibaaImC
namespace Go.Proofs.Ytpgibmffgliibaa
open Go.RowKit Go.ChangeShapes Go.WideShapes Go.ChangeAt
open Im (Sl)

theorem Blk.varM {w : World} {x : List Sl} (hm : x.length = 40) : Blk ((w.alloc (.cells (mcells Im.zero).toArray 28)).setCells w.heap.size 0 (mcells x)) w.heap.size 28 (mcells x) := by
  have := (Blk.new w 28 (mcells Im.zero).toArray).setCells (mcells x) 0 (by show 0 + (mcells x).length ≤ (mcells Im.zero).length; rw [mcells_len x, hm, mcells_len Im.zero]; decide)
  rw [spl_all _ _ (by show (mcells x).length = (mcells Im.zero).length; rw [mcells_len x, hm, mcells_len Im.zero]; rfl)] at this
  exact this
theorem below_varM {w : World} {arr : Array Value} {x : List Sl} : Below w.heap.size w ((w.alloc (.cells arr 28)).setCells w.heap.size 0 (mcells x)) :=
  below_setCells ((Below.refl _ _).alloc (Nat.le_refl _) _) (Nat.le_refl _) _ _
theorem aw_free : Im.freeN Im.zero = 1 ∧ Im.freeE Im.zero = 0 := by decide +kernel
theorem aw_put7 : Im.putE Im.zero 7 (1, 0) = 0 := by decide +kernel
theorem aw_put10 : Im.putE Im.zero 10 (1, 0) = 0 := by decide +kernel
theorem aw_drop8 : Im.dropE (Im.putM Im.zero 7 (1, 0)) 8 = 6 := by decide +kernel
theorem aw_chg7 : nums (Im.changed Im.zero (Im.putM Im.zero 7 (1, 0))) = [0] := by decide +kernel
theorem aw_chg10 : nums (Im.changed Im.zero (Im.putM Im.zero 10 (1, 0))) = [1] := by decide +kernel
theorem is_one (w : World) (z : Int) {g : Nat} (hg : g = w.heap.size) : Is .i64 (w.alloc (.cells #[.int .i64 z] 3)) (w.alloc (.cells #[.int .i64 z] 3)).heap.size (.slice (some ⟨g, 0, none⟩) 1 1) [z] := by
  subst hg
  have := Is.lit .i64 w 3 #[.int .i64 z] [z] 1 rfl rfl (by simp [maxLen])
  rw [World.size_alloc]
  exact this
set_option maxRecDepth 100000 in
set_option maxHeartbeats 8000000 in
theorem awakeM_any (w : World) :
    Calls Try.prog 15 #[] w fun e w' => e = .returned (.bool true) ∧ Below w.heap.size w w' := by
  have HZL := Lib.hid (show Im.zero.length = 40 from rfl)
  have hzv := zeroIM
  go_enter Try.func15, Try.ntmps15
  go_wp2_with fail
  clear hzv
  refine (free_any Im.zero w rfl).mono ?_
  rintro e w1 ⟨rfl, c⟩
  rw [aw_free.1, aw_free.2]
  have hzv := zeroIM
  go_wp2_with fail
  clear hzv
  refine (put_any Im.zero 7 1 0 w1 rfl).mono ?_
  rintro e w2 ⟨rfl, b2⟩
  replace c := c.trans (b2.mono c.size)
  clear b2
  rw [aw_put7]
  have HA7 := Lib.hid aw_chg7
  have HD8 := Lib.hid aw_drop8
  have HAL := Lib.hid (Im.good_put Im.good_zero 7 (1, 0) (by decide)).1
  generalize Im.putM Im.zero 7 (1, 0) = A7 at *
  have hzv := zeroIM
  go_upto_region 3 with (with_reducible refine wpList_store_new rfl 28 (.tmp 3) (.tmp 18) rfl (mcells A7) rfl rfl ?_ rfl (infoM _ HAL.out) mcells_one ?_)
  · rw [mcells_len, HAL.out]; exact Nat.le_refl 120
  clear hzv
  generalize hW : (w2.alloc (.cells _ 28)).setCells w2.heap.size 0 _ = w2v
  have k3 : Blk w2v w2.heap.size 28 (mcells A7) := by rw [← hW]; exact Blk.varM HAL.out
  have bv : Below w2.heap.size w2 w2v := by rw [← hW]; exact below_varM
  clear hW
  replace c := c.trans (bv.mono c.size)
  clear bv
  generalize w2.heap.size = g3 at *
  have hzv := zeroIM
  go_wp2_with fail
  clear hzv
  refine (put_any Im.zero 10 1 0 w2v rfl).mono ?_
  rintro e w3 ⟨rfl, b3⟩
  replace k3 := k3.ext b3
  replace c := c.trans (b3.mono c.size)
  clear b3
  rw [aw_put10]
  have HA10 := Lib.hid aw_chg10
  have HBL := Lib.hid (Im.good_put Im.good_zero 10 (1, 0) (by decide)).1
  generalize Im.putM Im.zero 10 (1, 0) = A10 at *
  have hzv := zeroIM
  go_upto_region 4 with (with_reducible refine wpList_store_new rfl 28 (.tmp 5) (.tmp 24) rfl (mcells A10) rfl rfl ?_ rfl (infoM _ HBL.out) mcells_one ?_)
  · rw [mcells_len, HBL.out]; exact Nat.le_refl 120
  clear hzv
  generalize hW : (w3.alloc (.cells _ 28)).setCells w3.heap.size 0 _ = w3v
  have k5 : Blk w3v w3.heap.size 28 (mcells A10) := by rw [← hW]; exact Blk.varM HBL.out
  have bv : Below w3.heap.size w3 w3v := by rw [← hW]; exact below_varM
  clear hW
  replace k3 := k3.ext bv
  replace c := c.trans (bv.mono c.size)
  clear bv
  generalize w3.heap.size = g5 at *
  have hr := k3.range
  go_wp2_with (refine wpList_load_at 28 (.tmp 3) rfl rfl g3 0 rfl (mcells A7) _ hr Try.underlying28 rfl (infoM _ HAL.out) ?_)
  refine (drop_any A7 8 _ HAL.out).mono ?_
  rintro e w4 ⟨rfl, b4⟩
  clear hr
  replace k3 := k3.ext b4
  replace k5 := k5.ext b4
  replace c := c.trans (b4.mono c.size)
  clear b4
  rw [HD8.out]
  have HCL := Lib.hid (show (Im.dropM A7 8).length = 40 by unfold Im.dropM; split; rw [List.length_set]; exact HAL.out; rfl)
  generalize Im.dropM A7 8 = A8 at *
  have hzv := zeroIM
  go_upto_region 5 with (with_reducible refine wpList_store_new rfl 28 (.tmp 7) (.tmp 29) rfl (mcells A8) rfl rfl ?_ rfl (infoM _ HCL.out) mcells_one ?_)
  · rw [mcells_len, HCL.out]; exact Nat.le_refl 120
  clear hzv
  generalize hW : (w4.alloc (.cells _ 28)).setCells w4.heap.size 0 _ = w4v
  have k7 : Blk w4v w4.heap.size 28 (mcells A8) := by rw [← hW]; exact Blk.varM HCL.out
  have bv : Below w4.heap.size w4 w4v := by rw [← hW]; exact below_varM
  clear hW
  replace k3 := k3.ext bv
  replace k5 := k5.ext bv
  replace c := c.trans (bv.mono c.size)
  clear bv
  generalize w4.heap.size = g7 at *
  clear k7
  have hr := k3.range
  have hzv := zeroIM
  go_wp2_with (refine wpList_load_at 28 (.tmp 3) rfl rfl g3 0 rfl (mcells A7) _ hr Try.underlying28 rfl (infoM _ HAL.out) ?_)
  clear hzv hr
  refine (changed_any Im.zero A7 _ rfl HAL.out).mono ?_
  rintro e w5 ⟨u5, rfl, hs5, b5⟩
  rw [HA7.out] at hs5
  have HS5 := Lib.hid hs5
  clear hs5
  replace k3 := k3.ext b5
  replace k5 := k5.ext b5
  replace c := c.trans (b5.mono c.size)
  clear b5
  go_wp2_with fail
  have HI5 := Lib.hid (is_one w5 0 rfl)
  have ba : Below w5.heap.size w5 (w5.alloc (.cells #[.int .i64 0] 3)) := (Below.refl _ _).alloc (Nat.le_refl _) _
  refine (same8_any _ _ _ _ [0] [0] ((HS5.out.ext (Nat.le_refl _) ba).more ba.size) HI5.out).mono ?_
  rintro e w6 ⟨rfl, b6⟩
  rw [show decide (([0] : List Int) = [0]) = true from rfl]
  replace b6 := ba.trans (b6.mono ba.size)
  clear ba HI5 HS5
  replace k3 := k3.ext b6
  replace k5 := k5.ext b6
  replace c := c.trans (b6.mono c.size)
  clear b6
  have hr := k5.range
  have hzv := zeroIM
  go_wp2_with (refine wpList_load_at 28 (.tmp 5) rfl rfl g5 0 rfl (mcells A10) _ hr Try.underlying28 rfl (infoM _ HBL.out) ?_)
  clear hzv hr
  refine (changed_any Im.zero A10 _ rfl HBL.out).mono ?_
  rintro e w7 ⟨u7, rfl, hs7, b7⟩
  rw [HA10.out] at hs7
  have HS7 := Lib.hid hs7
  clear hs7
  replace k3 := k3.ext b7
  replace k5 := k5.ext b7
  replace c := c.trans (b7.mono c.size)
  clear b7
  go_wp2_with fail
  have HI7 := Lib.hid (is_one w7 1 rfl)
  have ba : Below w7.heap.size w7 (w7.alloc (.cells #[.int .i64 1] 3)) := (Below.refl _ _).alloc (Nat.le_refl _) _
  refine (same8_any _ _ _ _ [1] [1] ((HS7.out.ext (Nat.le_refl _) ba).more ba.size) HI7.out).mono ?_
  rintro e w8 ⟨rfl, b8⟩
  rw [show decide (([1] : List Int) = [1]) = true from rfl]
  replace b8 := ba.trans (b8.mono ba.size)
  clear ba HI7 HS7
  replace k3 := k3.ext b8
  replace k5 := k5.ext b8
  replace c := c.trans (b8.mono c.size)
  clear b8
  go_wp2
  go_ret
  exact ⟨rfl, c⟩
end Go.Proofs.Ytpgibmffgliibaa
