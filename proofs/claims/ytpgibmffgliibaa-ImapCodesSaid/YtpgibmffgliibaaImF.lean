/-
  The walks of Free (package imap's and the document's), Changed and There. By an AI agent.
-/
import Derived.Test.YtpgibmffgliibaaImY
namespace Go.Proofs.Ytpgibmffgliibaa
open Go.RowKit Go.ChangeShapes Go.WideShapes Go.ChangeAt
open Im (Sl)

theorem free_parts (m : List Sl) : (Im.mayB m = false → Im.freeN m = 0 ∧ Im.freeE m = 1) ∧ (Im.mayB m = true → Im.free m < 40 → Im.freeN m = Im.free m ∧ Im.freeE m = 0) ∧ (Im.mayB m = true → ¬ Im.free m < 40 → Im.freeN m = 0 ∧ Im.freeE m = 8) := by
  unfold Im.freeN Im.freeE
  refine ⟨fun h => ?_, fun h h2 => ?_, fun h h2 => ?_⟩
  · rw [h]; exact ⟨rfl, rfl⟩
  · rw [h, if_pos rfl, if_pos h2, if_pos rfl, if_pos h2]; exact ⟨rfl, rfl⟩
  · rw [h, if_pos rfl, if_neg h2, if_pos rfl, if_neg h2]; exact ⟨rfl, rfl⟩
def FreeR (m : List Sl) (w : World) (e : Ending) (w' : World) : Prop := e = .returned (.tuple #[.int .i64 (Im.freeN m : Nat), .int .i64 (Im.freeE m : Nat)]) ∧ Below w.heap.size w w'
theorem FreeR.mk {m : List Sl} {n k : Nat} {z q : Int} {w w' : World} (h : Im.freeN m = n ∧ Im.freeE m = k) (hz : z = n) (hq : q = k) (hb : Below w.heap.size w w') : FreeR m w (.returned (.tuple #[.int .i64 z, .int .i64 q])) w' := by
  subst hz hq
  unfold FreeR
  rw [h.1, h.2]; exact ⟨rfl, hb⟩
set_option maxRecDepth 100000 in
set_option maxHeartbeats 2000000 in
theorem free_any (m : List Sl) (w : World) (hm : m.length = 40) :
    Calls Try.prog 7 #[magg m] w (FreeR m w) := by
  have HFP := Lib.hid (free_parts m)
  unfold magg
  go_enter Try.func7, Try.ntmps7
  go_upto_region 1 with (fail)
  have i0 := Blk.new w 28 (mcells m).toArray
  have c0 := (Below.refl w.heap.size w).alloc (Nat.le_refl _) (.cells (mcells m).toArray 28)
  change Blk _ _ _ (mcells m) at i0
  generalize w.alloc (.cells (mcells m).toArray 28) = w0 at *
  generalize w.heap.size = g1 at i0 ⊢
  have hr := i0.range
  go_wp2_with (refine wpList_load_at 28 (.tmp 1) rfl rfl g1 0 rfl (mcells m) _ hr Try.underlying28 rfl (infoM _ hm) ?_)
  refine (mayM_any m _ hm).mono ?_
  rintro e w2 ⟨rfl, b2⟩
  have i2 := i0.ext b2
  have c2 := c0.trans (b2.mono c0.size)
  clear hr i0 c0 b2
  cases hb : Im.mayB m with
  | false =>
    have HR := Lib.hid (HFP.out.1 hb)
    clear hb
    go_wp2
    go_ret2
    exact FreeR.mk HR.out rfl rfl c2
  | true =>
    have HM := Lib.hid hb
    clear hb
    go_wp2
    go_loopw [4] (fun i wr => ∃ k : Nat, k ≤ 40 ∧ 1 ≤ k ∧ i = .int .i64 k ∧ Hid (∀ j, 1 ≤ j → j < k → 0 < (m.getD j Sl.zero).a) ∧ Blk wr g1 28 (mcells m) ∧ Below w.heap.size w wr) (fun i _ => 40 - (intOf i).toNat)
    case atStart => exact ⟨1, by omega, by omega, rfl, Lib.hid (fun j h1 h2 => absurd h1 (by omega)), i2, c2⟩
    case round =>
      obtain ⟨k, hk, hk1, rfl, HA, i3, c3⟩ := hrel
      clear i2 c2
      by_cases hlt : k < 40
      · have hle : (k : Int) ≤ 39 := by omega
        have hr := i3.rangeMid (k * 3) (scells (m.getD k Sl.zero)) (by rw [scells_mid m k (by omega), Nat.mul_comm, List.length_take, List.length_drop, mcells_len, hm]; congr 1; omega)
        have HY := Lib.hid (fun h : 0 < (m.getD k Sl.zero).a => show ∀ j, 1 ≤ j → j < k + 1 → 0 < (m.getD j Sl.zero).a from fun j h1 h2 => if e : j = k then by rw [e]; exact h else HA.out j h1 (by omega))
        have HN := Lib.hid (fun h : ¬ 0 < (m.getD k Sl.zero).a => (Im.free_iff m k hk1 hlt).2 ⟨h, HA.out⟩)
        generalize m.getD k Sl.zero = y at *
        go_wp2_with (refine wpList_load_at 26 (.tmp 13) rfl rfl g1 (k * 3) rfl (scells y) _ hr Try.underlying26 rfl (infoS y) ?_)
        refine (exists_any y _).mono ?_
        rintro e w4 ⟨rfl, b4⟩
        have i4 := i3.ext b4
        have c4 := c3.trans (b4.mono c3.size)
        clear hr i3 c3 b4
        by_cases ha : 0 < y.a
        · rw [decide_eq_true ha]
          have HY2 := Lib.hid (HY.out ha)
          clear ha
          go_wp2
          go_roundw
          case rel => exact ⟨k + 1, by omega, by omega, by go_num, HY2, i4, c4⟩
          case measure => simp [intOf]; omega
        · rw [decide_eq_false ha]
          have HN2 := Lib.hid (HN.out (by omega))
          clear ha
          go_wp2
          go_ret2
          exact FreeR.mk (HFP.out.2.1 HM.out (by rw [HN2.out]; exact hlt)) (by rw [HN2.out]) rfl c4
      · obtain rfl : k = 40 := by omega
        have hfr : ¬ Im.free m < 40 := fun h => Im.free_at m h (HA.out _ (Im.free_le m).1 h)
        have HR := Lib.hid (HFP.out.2.2 HM.out hfr)
        rw [show (((40 : Nat)) : Int) = 40 from rfl]
        clear hfr
        go_wp2
        go_ret2
        exact FreeR.mk HR.out rfl rfl c3
/-- Is i free, and none of those from 1 on, ahead of k? -/
def leastB (m : List Sl) (i k : Nat) : Bool := (m.getD i Sl.zero).a == 0 && (List.range (k - 1)).all fun j => decide (0 < (m.getD (j + 1) Sl.zero).a)
theorem leastB_one (m : List Sl) (i : Nat) : leastB m i 1 = ((m.getD i Sl.zero).a == 0) := by unfold leastB; simp
theorem leastB_succ (m : List Sl) (i k : Nat) (hk : 1 ≤ k) : leastB m i (k + 1) = (leastB m i k && decide (0 < (m.getD k Sl.zero).a)) := by
  obtain ⟨k, rfl⟩ : ∃ q, k = q + 1 := ⟨k - 1, by omega⟩
  unfold leastB
  rw [Nat.add_sub_cancel, Nat.add_sub_cancel, List.range_succ, List.all_append, Bool.and_assoc]
  simp
theorem leastB_iff (m : List Sl) (hm : m.length = 40) (h : Im.mayB m = true) (i : Nat) (h1 : 1 ≤ i) (h2 : i < 40) : leastB m i i = true ↔ Im.free m = i := by
  have hp := Im.sl_parts (Im.at_parts h hm i h2)
  rw [Im.free_iff m i h1 h2]
  unfold leastB
  rw [Bool.and_eq_true, beq_iff_eq, List.all_eq_true]
  constructor
  · rintro ⟨h3, h4⟩
    refine ⟨by omega, fun j h5 h6 => ?_⟩
    have := h4 (j - 1) (List.mem_range.2 (by omega))
    rw [Nat.sub_add_cancel h5] at this
    exact of_decide_eq_true this
  · rintro ⟨h3, h4⟩
    refine ⟨by omega, fun j h5 => ?_⟩
    have := List.mem_range.1 h5
    exact decide_eq_true (h4 (j + 1) (by omega) (by omega))
set_option maxRecDepth 100000 in
set_option maxHeartbeats 4000000 in
theorem rfree_any (m : List Sl) (w : World) (hm : m.length = 40) :
    Calls Try.prog 8 #[magg m] w (FreeR m w) := by
  have HFP := Lib.hid (free_parts m)
  unfold magg
  go_enter Try.func8, Try.ntmps8
  go_upto_region 1 with (fail)
  have i0 := Blk.new w 28 (mcells m).toArray
  have c0 := (Below.refl w.heap.size w).alloc (Nat.le_refl _) (.cells (mcells m).toArray 28)
  change Blk _ _ _ (mcells m) at i0
  generalize w.alloc (.cells (mcells m).toArray 28) = w0 at *
  generalize w.heap.size = g1 at i0 ⊢
  have hr := i0.range
  go_wp2_with (refine wpList_load_at 28 (.tmp 1) rfl rfl g1 0 rfl (mcells m) _ hr Try.underlying28 rfl (infoM _ hm) ?_)
  refine (rmayM_any m _ hm).mono ?_
  rintro e w2 ⟨rfl, b2⟩
  have i2 := i0.ext b2
  have c2 := c0.trans (b2.mono c0.size)
  clear hr i0 c0 b2
  cases hb : Im.mayB m with
  | false =>
    have HR := Lib.hid (HFP.out.1 hb)
    clear hb
    go_wp2
    go_ret2
    exact FreeR.mk HR.out rfl rfl c2
  | true =>
    have HM := Lib.hid hb
    clear hb
    go_wp2
    go_loopw [4] (fun i wr => ∃ k : Nat, k ≤ 39 ∧ i = .int .i64 k ∧ Hid (∀ j, k < j → j < 40 → Im.free m ≠ j) ∧ Blk wr g1 28 (mcells m) ∧ Below w.heap.size w wr) (fun i _ => (intOf i).toNat)
    case atStart => exact ⟨39, by omega, rfl, Lib.hid (fun j h1 h2 => absurd h1 (by omega)), i2, c2⟩
    case round =>
      obtain ⟨i, hi, rfl, HA, i3, c3⟩ := hrel
      clear i2 c2
      by_cases hlt : 0 < i
      · have hlt' : (0 : Int) < i := by omega
        have x0 := i3.cell (i * 3)
        rw [(cells_atN m i (by omega)).1] at x0
        have HL1 := Lib.hid (leastB_one m i)
        have HLI := Lib.hid (leastB_iff m hm HM.out i hlt (by omega))
        have HLS := Lib.hid (fun k hk => leastB_succ m i k hk)
        generalize (m.getD i Sl.zero).a = A at *
        go_upto_region 8 with (fail)
        clear x0
        obtain ⟨wo, hwo⟩ : ∃ wo, wo = wr := ⟨_, rfl⟩
        rw [← hwo] at i3 c3 ⊢
        clear hwo
        go_loopw [5, 6] (fun l q wq => ∃ k : Nat, 1 ≤ k ∧ k ≤ i ∧ q = .int .i64 k ∧ l = .bool (leastB m i k) ∧ wo = wq) (fun _ q _ => i - (intOf q).toNat)
        case atStart => exact ⟨1, by omega, by omega, rfl, by rw [HL1.out], rfl⟩
        case round =>
          obtain ⟨k, hk1, hk, rfl, rfl, rfl⟩ := hrel
          by_cases hlk : k < i
          · have hlk' : (k : Int) < i := by omega
            have x1 := i3.cell (k * 3)
            rw [(cells_atN m k (by omega)).1] at x1
            have HS := Lib.hid (HLS.out k hk1)
            generalize (m.getD k Sl.zero).a = K at *
            cases hl : leastB m i k with
            | false =>
              have HS2 := Lib.hid (show leastB m i (k + 1) = false by rw [HS.out, hl]; rfl)
              clear hl
              go_wp2
              go_roundw
              case rel => exact ⟨k + 1, by omega, by omega, by go_num, by rw [HS2.out], by first | rfl | trivial⟩
              case measure => simp [intOf]; omega
            | true =>
              have HS2 := Lib.hid (show leastB m i (k + 1) = decide (0 < K) by rw [HS.out, hl]; rfl)
              clear hl
              go_wp2
              go_roundw
              case rel => exact ⟨k + 1, by omega, by omega, by go_num, by rw [HS2.out], by first | rfl | trivial⟩
              case measure => simp [intOf]; omega
          · obtain rfl : k = i := by omega
            cases hl : leastB m k k with
            | true =>
              have HF := Lib.hid (HLI.out.1 hl)
              clear hl
              go_wp2
              go_ret2
              exact FreeR.mk (HFP.out.2.1 HM.out (by rw [HF.out]; omega)) (by rw [HF.out]) rfl c3
            | false =>
              have HF := Lib.hid (show ∀ j, k - 1 < j → j < 40 → Im.free m ≠ j from fun j h1 h2 => if e : j = k then fun h => by rw [HLI.out.2 (h.trans e)] at hl; cases hl else HA.out j (by omega) h2)
              clear hl
              go_wp2
              go_roundw
              case rel => exact ⟨k - 1, by omega, by go_num, HF, i3, c3⟩
              case measure => simp [intOf]; omega
      · obtain rfl : i = 0 := by omega
        have hfr : ¬ Im.free m < 40 := fun h => HA.out _ (Im.free_le m).1 h rfl
        have HR := Lib.hid (HFP.out.2.2 HM.out hfr)
        rw [show (((0 : Nat)) : Int) = 0 from rfl]
        clear hfr
        go_wp2
        go_ret2
        exact FreeR.mk HR.out rfl rfl c3
end Go.Proofs.Ytpgibmffgliibaa
