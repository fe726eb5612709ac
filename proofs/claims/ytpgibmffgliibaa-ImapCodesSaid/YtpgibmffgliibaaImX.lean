/-
  The walks of imap's check, Put, Drop, Give, and of the document's right, May, wrong, Put, Drop, Give. By an AI agent.
-/
import Derived.Test.YtpgibmffgliibaaImW
namespace Go.Proofs.Ytpgibmffgliibaa
open Go.RowKit Go.ChangeShapes Go.WideShapes Go.ChangeAt
open Im (Sl)

set_option maxHeartbeats 1000000 in
theorem right_any (y : Sl) (w : World) :
    Calls Try.prog 36 #[sagg y] w fun e w' => e = .returned (.bool (Im.slB y)) ∧ Below w.heap.size w w' := by
  have HSL := Lib.hid (slB_mk y)
  unfold sagg
  go_enter Try.func36, Try.ntmps36
  go_upto_region 1 with (fail)
  have kx := Blk.new w 26 #[.int .i64 y.a, .int .u32 (y.s : Int), .int .i64 y.v]
  have c2 := (Below.refl w.heap.size w).alloc (Nat.le_refl _) (.cells #[.int .i64 y.a, .int .u32 (y.s : Int), .int .i64 y.v] 26)
  generalize w.alloc (.cells #[.int .i64 y.a, .int .u32 (y.s : Int), .int .i64 y.v] 26) = w3 at *
  generalize w.heap.size = gx at kx ⊢
  have x0 := kx.cell 0
  have x1 := kx.cell 1
  simp only [List.getElem?_cons_zero, List.getElem?_cons_succ] at x0 x1
  go_wp2_with fail
  refine (rptr_any y.a y.s _).mono ?_
  rintro e w4 ⟨rfl, b4⟩
  have c4 := c2.trans (b4.mono c2.size)
  have x2 := (kx.ext b4).cell 2
  simp only [List.getElem?_cons_zero, List.getElem?_cons_succ] at x2
  clear x0 x1 kx c2 b4
  cases hp : Nd.ptrB (y.a, y.s) with
  | false =>
    have HE := Lib.hid (show Im.slB y = false by rw [HSL.out, hp]; rfl)
    clear hp
    go_wp2
    go_ret
    exact ⟨by rw [HE.out]; rfl, c4⟩
  | true =>
    by_cases hv0 : 0 ≤ y.v
    · by_cases hv1 : y.v ≤ 2147483647
      · have HE := Lib.hid (show Im.slB y = true by rw [HSL.out, hp, decide_eq_true ⟨hv0, hv1⟩]; rfl)
        clear hp
        go_wp2
        go_ret
        exact ⟨by rw [HE.out]; rfl, c4⟩
      · have HE := Lib.hid (show Im.slB y = decide (y.v ≤ 2147483647) by rw [HSL.out, hp, decide_eq_false (fun q => hv1 q.2), decide_eq_false hv1]; rfl)
        clear hp
        go_wp2
        go_ret
        exact ⟨by rw [HE.out]; rfl, c4⟩
    · have HE := Lib.hid (show Im.slB y = false by rw [HSL.out, hp, decide_eq_false (fun q => hv0 q.1)]; rfl)
      clear hp
      go_wp2
      go_ret
      exact ⟨by rw [HE.out]; rfl, c4⟩
theorem scells_mid (m : List Sl) (j : Nat) (hj : j < m.length) : scells (m.getD j Sl.zero) = ((mcells m).drop (3 * j)).take 3 := by
  rw [mcells_drop]
  have e : m.drop j = m.getD j Sl.zero :: m.drop (j + 1) := by
    rw [List.drop_eq_getElem_cons hj]
    congr 1
    simp [List.getD, hj]
  rw [e]
  have := mcells_take (m.getD j Sl.zero :: m.drop (j + 1)) 1
  show _ = (mcells _).take (3 * 1)
  rw [this]
  rfl
set_option maxRecDepth 100000 in
set_option maxHeartbeats 2000000 in
theorem rmayM_any (m : List Sl) (w : World) (hm : m.length = 40) :
    Calls Try.prog 22 #[magg m] w fun e w' => e = .returned (.bool (Im.mayB m)) ∧ Below w.heap.size w w' := by
  unfold magg
  go_enter Try.func22, Try.ntmps22
  go_upto_region 1 with (fail)
  have i0 := Blk.new w 28 (mcells m).toArray
  have c0 := (Below.refl w.heap.size w).alloc (Nat.le_refl _) (.cells (mcells m).toArray 28)
  change Blk _ _ _ (mcells m) at i0
  generalize w.alloc (.cells (mcells m).toArray 28) = w0 at *
  generalize w.heap.size = g1 at i0 ⊢
  go_wp2
  go_loopw [3] (fun i wr => ∃ j : Nat, j ≤ 40 ∧ i = .int .i64 j ∧ Hid ((m.take j).all Im.slB = true) ∧ Blk wr g1 28 (mcells m) ∧ Below w.heap.size w wr) (fun i _ => 40 - (intOf i).toNat)
  case atStart => exact ⟨0, by omega, rfl, Lib.hid rfl, i0, c0⟩
  case round =>
    obtain ⟨j, hj, rfl, HA, i1, c1⟩ := hrel
    clear i0 c0
    by_cases hlt : j < 40
    · have hr := i1.rangeMid (j * 3) (scells (m.getD j Sl.zero)) (by rw [scells_mid m j (by omega), Nat.mul_comm, List.length_take, List.length_drop, mcells_len, hm]; congr 1; omega)
      have HN1 := Lib.hid (fun h => mayB_no (m := m) (j := j) (by omega) h)
      have HY1 := Lib.hid (fun h => all_snoc (b := m) (j := j) (by omega) HA.out h)
      generalize m.getD j Sl.zero = y at *
      go_wp2_with (refine wpList_load_at 26 (.tmp 9) rfl rfl g1 (j * 3) rfl (scells y) _ hr Try.underlying26 rfl (infoS y) ?_)
      refine (right_any y _).mono ?_
      rintro e w4 ⟨rfl, b4⟩
      have i4 := i1.ext b4
      have c4 := c1.trans (b4.mono c1.size)
      clear hr i1 c1 b4
      cases hs : Im.slB y with
      | false =>
        have HN := Lib.hid (HN1.out hs)
        clear hs
        go_wp2
        go_ret
        exact ⟨by rw [HN.out]; rfl, c4⟩
      | true =>
        have HY := Lib.hid (HY1.out hs)
        clear hs
        go_wp2
        go_roundw
        case rel => exact ⟨j + 1, by omega, by go_num, HY, i4, c4⟩
        case measure => simp [intOf]; omega
    · obtain rfl : j = 40 := by omega
      have hall := HA.out
      rw [List.take_of_length_le (by omega)] at hall
      have HE := Lib.hid (show Im.mayB m = decide (m.getD 0 Sl.zero = Sl.zero) by unfold Im.mayB; rw [hall]; rfl)
      clear hall HA
      rw [show (((40 : Nat)) : Int) = 40 from rfl]
      have hr := i1.rangeMid 0 (scells (m.getD 0 Sl.zero)) (by rw [scells_mid m 0 (by omega), List.length_take, List.length_drop, mcells_len, hm]; rfl)
      generalize m.getD 0 Sl.zero = y at *
      have hrun := fun W => (run_eql_sl y Sl.zero _ rfl W).1
      obtain ⟨r, hrr⟩ : ∃ r, decide (y = Sl.zero) = r := ⟨_, rfl⟩
      rw [hrr] at hrun
      have HRR := Lib.hid hrr
      clear hrr
      go_wp2_with (first | refine wpList_load_at 26 (.tmp 13) rfl rfl g1 0 rfl (scells y) _ hr Try.underlying26 rfl (infoS y) ?_ | refine wpList_binop .eql 26 26 (.tmp 14) (.tmp 15) rfl rfl rfl rfl eqGuardS (hrun _) ?_)
      go_ret
      exact ⟨by rw [HE.out, HRR.out]; rfl, c1⟩
theorem wrong_no1 {m : List Sl} {i : Int} (h : Im.mayB m = false) : Im.wrong m i = 1 := by unfold Im.wrong; rw [h]; rfl
theorem wrong_no2 {m : List Sl} {i : Int} (h : Im.mayB m = true) (h2 : ¬ (1 ≤ i ∧ i ≤ 39)) : Im.wrong m i = 4 := by unfold Im.wrong Im.inoB; rw [h, decide_eq_false h2]; rfl
theorem wrong_yes {m : List Sl} {i : Int} (h : Im.mayB m = true) (h2 : 1 ≤ i) (h3 : i ≤ 39) : Im.wrong m i = 0 := by unfold Im.wrong Im.inoB; rw [h, decide_eq_true ⟨h2, h3⟩]; rfl
set_option maxRecDepth 100000 in
set_option maxHeartbeats 1000000 in
theorem check_any (m : List Sl) (i : Int) (w : World) (hm : m.length = 40) :
    Calls Try.prog 25 #[magg m, .int .i64 i] w fun e w' => e = .returned (.int .i64 (Im.wrong m i : Nat)) ∧ Below w.heap.size w w' := by
  unfold magg
  go_enter Try.func25, Try.ntmps25
  go_upto_region 1 with (fail)
  have i0 := Blk.new w 28 (mcells m).toArray
  have c0 := (Below.refl w.heap.size w).alloc (Nat.le_refl _) (.cells (mcells m).toArray 28)
  change Blk _ _ _ (mcells m) at i0
  generalize w.alloc (.cells (mcells m).toArray 28) = w0 at *
  generalize w.heap.size = g1 at i0 ⊢
  have hr := i0.range
  go_wp2_with (refine wpList_load_at 28 (.tmp 2) rfl rfl g1 0 rfl (mcells m) _ hr Try.underlying28 rfl (infoM _ hm) ?_)
  refine (mayM_any m _ hm).mono ?_
  rintro e w4 ⟨rfl, b4⟩
  have c4 := c0.trans (b4.mono c0.size)
  clear hr i0 c0 b4
  cases h : Im.mayB m with
  | false =>
    have HW := Lib.hid (wrong_no1 (i := i) h)
    clear h
    go_wp2
    go_ret
    exact ⟨by rw [HW.out]; rfl, c4⟩
  | true =>
    by_cases h1 : 1 ≤ i
    · by_cases h2 : i ≤ 39
      · have HW := Lib.hid (wrong_yes h h1 h2)
        clear h
        go_wp2
        go_ret
        exact ⟨by rw [HW.out]; rfl, c4⟩
      · have HW := Lib.hid (wrong_no2 (i := i) h (fun q => h2 q.2))
        clear h
        go_wp2
        go_ret
        exact ⟨by rw [HW.out]; rfl, c4⟩
    · have HW := Lib.hid (wrong_no2 (i := i) h (fun q => h1 q.1))
      clear h
      go_wp2
      go_ret
      exact ⟨by rw [HW.out]; rfl, c4⟩
set_option maxRecDepth 100000 in
set_option maxHeartbeats 1000000 in
theorem rwrong_any (m : List Sl) (i : Int) (w : World) (hm : m.length = 40) :
    Calls Try.prog 27 #[magg m, .int .i64 i] w fun e w' => e = .returned (.int .i64 (Im.wrong m i : Nat)) ∧ Below w.heap.size w w' := by
  unfold magg
  go_enter Try.func27, Try.ntmps27
  go_upto_region 1 with (fail)
  have i0 := Blk.new w 28 (mcells m).toArray
  have c0 := (Below.refl w.heap.size w).alloc (Nat.le_refl _) (.cells (mcells m).toArray 28)
  change Blk _ _ _ (mcells m) at i0
  generalize w.alloc (.cells (mcells m).toArray 28) = w0 at *
  generalize w.heap.size = g1 at i0 ⊢
  have hr := i0.range
  go_wp2_with (refine wpList_load_at 28 (.tmp 2) rfl rfl g1 0 rfl (mcells m) _ hr Try.underlying28 rfl (infoM _ hm) ?_)
  refine (rmayM_any m _ hm).mono ?_
  rintro e w4 ⟨rfl, b4⟩
  have c4 := c0.trans (b4.mono c0.size)
  clear hr i0 c0 b4
  cases h : Im.mayB m with
  | false =>
    have HW := Lib.hid (wrong_no1 (i := i) h)
    clear h
    go_wp2
    go_ret
    exact ⟨by rw [HW.out]; rfl, c4⟩
  | true =>
    by_cases h1 : 1 ≤ i
    · by_cases h2 : i ≤ 39
      · have HW := Lib.hid (wrong_yes h h1 h2)
        clear h
        go_wp2
        go_ret
        exact ⟨by rw [HW.out]; rfl, c4⟩
      · have HW := Lib.hid (wrong_no2 (i := i) h (fun q => h2 q.2))
        clear h
        go_wp2
        go_ret
        exact ⟨by rw [HW.out]; rfl, c4⟩
    · have HW := Lib.hid (wrong_no2 (i := i) h (fun q => h1 q.1))
      clear h
      go_wp2
      go_ret
      exact ⟨by rw [HW.out]; rfl, c4⟩
/-- What the three of them leave. -/
def MapR (m : List Sl) (n : Nat) (w : World) (e : Ending) (w' : World) : Prop := e = .returned (.tuple #[magg m, .int .i64 (n : Int)]) ∧ Below w.heap.size w w'
theorem MapR.mk {m x : List Sl} {n k : Nat} {z : Int} {w w' : World} (hm : m = x) (hn : n = k) (hz : z = k) (hb : Below w.heap.size w w') : MapR m n w (.returned (.tuple #[magg x, .int .i64 z])) w' := by
  subst hm hn hz; exact ⟨rfl, hb⟩
theorem putE_wrong {m : List Sl} {i : Int} {p : Int × Nat} (h : Im.wrong m i ≠ 0) : Im.putE m i p = Im.wrong m i ∧ Im.putM m i p = Im.zero := by
  have e : Im.putE m i p = Im.wrong m i := by unfold Im.putE; rw [if_neg h]
  exact ⟨e, by unfold Im.putM; rw [e, if_neg h]⟩
theorem putE_no {m : List Sl} {i : Int} {p : Int × Nat} (h : Im.wrong m i = 0) (h2 : ¬ (1 ≤ p.1 ∧ Nd.ptrB p = true)) : Im.putE m i p = 1 ∧ Im.putM m i p = Im.zero := by
  have e : Im.putE m i p = 1 := by unfold Im.putE; rw [if_pos h, if_neg h2]
  exact ⟨e, by unfold Im.putM; rw [e]; rfl⟩
theorem putE_yes {m : List Sl} {i : Int} {p : Int × Nat} (h : Im.wrong m i = 0) (h2 : 1 ≤ p.1) (h3 : Nd.ptrB p = true) : Im.putE m i p = 0 ∧ Im.putM m i p = m.set i.toNat ⟨p.1, p.2, (Im.at_ m i).v⟩ := by
  have e : Im.putE m i p = 0 := by unfold Im.putE; rw [if_pos h, if_pos ⟨h2, h3⟩]
  exact ⟨e, by unfold Im.putM; rw [e]; rfl⟩
theorem dropE_wrong {m : List Sl} {i : Int} (h : Im.wrong m i ≠ 0) : Im.dropE m i = Im.wrong m i ∧ Im.dropM m i = Im.zero := by
  have e : Im.dropE m i = Im.wrong m i := by unfold Im.dropE; rw [if_neg h]
  exact ⟨e, by unfold Im.dropM; rw [e, if_neg h]⟩
theorem dropE_no {m : List Sl} {i : Int} (h : Im.wrong m i = 0) (h2 : ¬ 0 < (Im.at_ m i).a) : Im.dropE m i = 6 ∧ Im.dropM m i = Im.zero := by
  have e : Im.dropE m i = 6 := by unfold Im.dropE; rw [if_pos h, if_neg h2]
  exact ⟨e, by unfold Im.dropM; rw [e]; rfl⟩
theorem dropE_yes {m : List Sl} {i : Int} (h : Im.wrong m i = 0) (h2 : 0 < (Im.at_ m i).a) : Im.dropE m i = 0 ∧ Im.dropM m i = m.set i.toNat ⟨0, 0, (Im.at_ m i).v⟩ := by
  have e : Im.dropE m i = 0 := by unfold Im.dropE; rw [if_pos h, if_pos h2]
  exact ⟨e, by unfold Im.dropM; rw [e]; rfl⟩
theorem giveE_wrong {m : List Sl} {i : Int} (h : Im.wrong m i ≠ 0) : Im.giveE m i = Im.wrong m i ∧ Im.giveM m i = Im.zero := by
  have e : Im.giveE m i = Im.wrong m i := by unfold Im.giveE; rw [if_neg h]
  exact ⟨e, by unfold Im.giveM; rw [e, if_neg h]⟩
theorem giveE_no {m : List Sl} {i : Int} (h : Im.wrong m i = 0) (h2 : (Im.at_ m i).v = 2147483647) : Im.giveE m i = 19 ∧ Im.giveM m i = Im.zero := by
  have e : Im.giveE m i = 19 := by unfold Im.giveE; rw [if_pos h, if_pos h2]
  exact ⟨e, by unfold Im.giveM; rw [e]; rfl⟩
theorem giveE_yes {m : List Sl} {i : Int} (h : Im.wrong m i = 0) (h2 : (Im.at_ m i).v ≠ 2147483647) : Im.giveE m i = 0 ∧ Im.giveM m i = m.set i.toNat ⟨(Im.at_ m i).a, (Im.at_ m i).s, (Im.at_ m i).v + 1⟩ := by
  have e : Im.giveE m i = 0 := by unfold Im.giveE; rw [if_pos h, if_neg h2]
  exact ⟨e, by unfold Im.giveM; rw [e]; rfl⟩
theorem wrong_lt (m : List Sl) (i : Int) : Im.wrong m i ≤ 4 := by
  unfold Im.wrong
  split
  · split <;> omega
  · omega
end Go.Proofs.Ytpgibmffgliibaa
