/-
  The walks of package title: what Count, Is, Head, Order, Fold, cut and Fit answer, for every text (of fewer than 2^40 octets). By an AI agent.
-/
import Derived.Test.YtkgegjifnegknaaTitleV
import Derived.Test.YtkgegjifnegknaaTitleQ
import Derived.Shelf.Abstract
import Derived.WalkLawsBesides
namespace Go.Proofs.Ytkgegjifnegknaa
open Go.RowKit
open Tl (It)

def alw (r : Int) : Bool := decide (32 ≤ r) && r != 127 && r != 47
theorem sgn_alw (x : It) : Tl.sgn x = (!x.odd && alw (itR x)) := by
  unfold Tl.sgn alw itR
  cases x.odd <;> simp [Bool.and_assoc]

set_option maxHeartbeats 400000 in
theorem allowed_any (r : Int) (w : World) :
    Calls Try.prog 28 #[.int .i32 r] w fun e w' => e = .returned (.bool (alw r)) ∧ w = w' := by
  unfold alw
  by_cases h1 : 32 ≤ r
  · have h1' : decide (32 ≤ r) = true := by simpa using h1
    cases h2 : (r != 127)
    · go_enter Try.func28, Try.ntmps28
      go_wp2
      go_ret
      exact ⟨by simp, rfl⟩
    · go_enter Try.func28, Try.ntmps28
      go_wp2
      go_ret
      exact ⟨by simp [h1], rfl⟩
  · have h1' : decide (32 ≤ r) = false := by simpa using h1
    go_enter Try.func28, Try.ntmps28
    go_wp2
    go_ret
    exact ⟨by simp, rfl⟩

theorem Iters.refl (w : World) : Iters w w := fun _ _ _ h => h
theorem Iters.trans {a b c : World} (h : Iters a b) (k : Iters b c) : Iters a c := fun i s p hi => k i s p (h i s p hi)
theorem Iters.alloc {a w : World} (h : Iters a w) (o : Obj) : Iters a (w.alloc o) := fun i s p hi =>
  have h1 := h i s p hi
  (Lib.alloc_old w o i (Array.getElem?_eq_some_iff.1 h1).1).trans h1
theorem Iters.set_ {a w : World} (h : Iters a w) {g i : Nat} {t : TypeId} {cs : List Value} (hg : Blk w g t cs) (u : Value) : Iters a (w.setCell ⟨g, i, none⟩ u) := fun k s p hk => by
  have h1 := h k s p hk
  rw [Below.heap_setCell _ _ _ _ (fun e => by
    subst e
    unfold Blk at hg
    rw [hg] at h1
    cases h1)]
  exact h1
theorem Blk.stay {w w' : World} {g : Nat} {t : TypeId} {cs : List Value} (h : Blk w g t cs) (hs : Stay w w') : Blk w' g t cs := hs g _ h (fun s p e => by cases e)

/-! ### Count -/
set_option maxHeartbeats 400000 in
theorem count1_any (x : It) (gr gs r s : Nat) (w : World) (hr : Blk w gr 3 [.int .i64 (r : Int)]) (hs : Blk w gs 3 [.int .i64 (s : Int)]) (hne : gr ≠ gs) (br : r ≤ 4611686018427387904) (bs : s ≤ 4611686018427387904) :
    Calls Try.prog 25 #[.agg #[.int .i32 (itR x), .string ⟨x.s.toArray⟩, .bool x.odd], .pointer (some ⟨gs, 0, none⟩), .pointer (some ⟨gr, 0, none⟩)] w fun e w' => e = .returned (.bool true) ∧
      (Blk w' gr 3 [.int .i64 ((if x.odd then r else r + 1 : Nat) : Int)] ∧ Blk w' gs 3 [.int .i64 ((if x.odd then s + 1 else s : Nat) : Int)]) ∧ (∀ B, B ≤ gr → B ≤ gs → B ≤ w.heap.size → Below B w w') ∧ Iters w w' := by
  obtain ⟨v, xs, od⟩ := x
  generalize itR ⟨v, xs, od⟩ = ir
  have lr := hr.lt
  have ls := hs.lt
  have c1 := hr.cell 0
  have c2 := hs.cell 0
  have f1 := hr.frozen 0
  have f2 := hs.frozen 0
  simp only [List.getElem?_cons_zero] at c1 c2
  cases od with
  | true =>
    go_enter Try.func25, Try.ntmps25
    go_wp2
    go_ret
    exact ⟨rfl, ⟨(hr.far hne _).alloc _, (hs.set_ 0 _).alloc _⟩, fun B h1 h2 h3 => ((Below.refl B w).setCell h2 _).alloc (by simpa using h3) _, ((Iters.refl w).set_ hs _).alloc _⟩
  | false =>
    go_enter Try.func25, Try.ntmps25
    go_wp2
    go_ret
    exact ⟨rfl, ⟨(hr.set_ 0 _).alloc _, (hs.far (Ne.symm hne) _).alloc _⟩, fun B h1 h2 h3 => ((Below.refl B w).setCell h1 _).alloc (by simpa using h3) _, ((Iters.refl w).set_ hr _).alloc _⟩

theorem run_count (xs : List It) : ∀ a b : Nat, Tl.run (fun (st : Nat × Nat) (x : It) => if x.odd then (st.1, st.2 + 1) else (st.1 + 1, st.2)) (fun _ _ => true) (a, b) xs = (a + (xs.filter fun x => !x.odd).length, b + (xs.filter fun x => x.odd).length) := by
  induction xs with
  | nil => intro a b; rfl
  | cons x xs ih =>
    intro a b
    unfold Tl.run
    rw [if_pos rfl]
    cases h : x.odd
    · simp only [Bool.false_eq_true, if_false]
      rw [ih]
      simp [h]
      omega
    · simp only [if_true]
      rw [ih]
      simp [h]
      omega
theorem fold_count (xs : List It) : ∀ a b : Nat, (xs.foldl (fun (st : Nat × Nat) (x : It) => if x.odd then (st.1, st.2 + 1) else (st.1 + 1, st.2)) (a, b)).1 ≤ a + xs.length ∧ (xs.foldl (fun (st : Nat × Nat) (x : It) => if x.odd then (st.1, st.2 + 1) else (st.1 + 1, st.2)) (a, b)).2 ≤ b + xs.length := by
  induction xs with
  | nil => intro a b; simp
  | cons x xs ih =>
    intro a b
    rw [List.foldl_cons]
    cases h : x.odd
    · simp only [Bool.false_eq_true, if_false, List.length_cons]
      have := ih (a + 1) b
      omega
    · simp only [if_true, List.length_cons]
      have := ih a (b + 1)
      omega

set_option maxHeartbeats 1000000 in
theorem count_any (l : List UInt8) (w : World) (hl : l.length < 1099511627776) :
    Calls Try.prog 11 #[.string ⟨l.toArray⟩] w fun e w' => e = .returned (.tuple #[.int .i64 (Tl.cntR l : Nat), .int .i64 (Tl.cntO l : Nat)]) ∧ Below w.heap.size w w' := by
  go_enter Try.func11, Try.ntmps11
  go_wp2_with fail
  have hk1 := (Blk.new w 3 #[.int .i64 0]).alloc (.cells #[.int .i64 0] 3)
  have hk2 := Blk.new (w.alloc (.cells #[.int .i64 0] 3)) 3 #[.int .i64 0]
  have hb := ((Below.refl w.heap.size w).alloc (Nat.le_refl _) (.cells #[.int .i64 0] 3)).alloc (by simp) (.cells #[.int .i64 0] 3)
  simp only [World.size_alloc] at hk2
  generalize (w.alloc (.cells #[.int .i64 0] 3)).alloc (.cells #[.int .i64 0] 3) = W at *
  refine (visit_any ⟨l.toArray⟩ (by rw [ba_size]; omega) 25 _ _ (fun (st : Nat × Nat) w' => Blk w' w.heap.size 3 [.int .i64 (st.1 : Int)] ∧ Blk w' (w.heap.size + 1) 3 [.int .i64 (st.2 : Int)])
    (fun (st : Nat × Nat) (x : It) => if x.odd then (st.1, st.2 + 1) else (st.1 + 1, st.2)) (fun _ _ => true) (0, 0) w.heap.size W hb.size (enters_of Try.func25 (by kernel_rfl) rfl) (fun st w1 w2 h hs => ⟨h.1.stay hs, h.2.stay hs⟩) ?_ ⟨hk1, hk2⟩).mono ?_
  · intro pre x post w1 hpre h1
    have hbd := fold_count pre 0 0
    have hlen := Tl.runes_len l
    have hpl : pre.length ≤ l.length := by
      have := congrArg List.length (show Tl.runes l = pre ++ x :: post from hpre)
      rw [List.length_append, List.length_cons] at this
      omega
    generalize pre.foldl (fun (st : Nat × Nat) (x : It) => if x.odd then (st.1, st.2 + 1) else (st.1 + 1, st.2)) (0, 0) = st at *
    obtain ⟨a, b⟩ := st
    refine (count1_any x w.heap.size (w.heap.size + 1) a b w1 h1.1 h1.2 (by omega) (by simp only at hbd; omega) (by simp only at hbd; omega)).mono ?_
    rintro e w2 ⟨rfl, hI, hB, hit⟩
    refine ⟨rfl, ?_, hB _ (Nat.le_refl _) (Nat.le_succ _) (Nat.le_of_lt h1.1.lt), hit⟩
    cases hx : x.odd <;> simpa [hx] using hI
  · rintro e w2 ⟨rfl, hI, hB⟩
    rw [show (⟨l.toArray⟩ : ByteArray).data.toList = l from rfl, run_count] at hI
    have HB := hb.trans hB
    have c1 := hI.1.cell 0
    have c2 := hI.2.cell 0
    simp only [List.getElem?_cons_zero, Nat.zero_add] at c1 c2
    have e1 : ((Tl.runes l).filter fun x => !x.odd).length = Tl.cntR l := rfl
    have e2 : ((Tl.runes l).filter fun x => x.odd).length = Tl.cntO l := rfl
    rw [e1] at c1
    rw [e2] at c2
    clear hI hB e1 e2
    generalize hR : Tl.cntR l = R at c1
    generalize hO : Tl.cntO l = O at c2
    have HR := Lib.hid hR
    have HO := Lib.hid hO
    clear hR hO
    go_wp2
    go_quiet (fail)
    go_wp2
    go_ret2
    exact ⟨by rw [HR.out, HO.out]; rfl, below_drewN HB _⟩

/-! ### Is -/
set_option maxHeartbeats 400000 in
theorem is1_any (x : It) (gr gg r : Nat) (b : Bool) (w : World) (hr : Blk w gr 3 [.int .i64 (r : Int)]) (hg : Blk w gg 4 [.bool b]) (hne : gr ≠ gg) (br : r ≤ 4611686018427387904) :
    Calls Try.prog 27 #[.agg #[.int .i32 (itR x), .string ⟨x.s.toArray⟩, .bool x.odd], .pointer (some ⟨gr, 0, none⟩), .pointer (some ⟨gg, 0, none⟩)] w fun e w' => e = .returned (.bool (Tl.sgn x)) ∧
      (Blk w' gr 3 [.int .i64 ((r + 1 : Nat) : Int)] ∧ Blk w' gg 4 [.bool (Tl.sgn x)]) ∧ (∀ B, B ≤ gr → B ≤ gg → B ≤ w.heap.size → Below B w w') ∧ Iters w w' := by
  rw [sgn_alw]
  obtain ⟨v, xs, od⟩ := x
  generalize itR ⟨v, xs, od⟩ = ir
  have lr := hr.lt
  have lg := hg.lt
  have c1 := hr.cell 0
  have c2 := hg.cell 0
  have f1 := hr.frozen 0
  have f2 := hg.frozen 0
  simp only [List.getElem?_cons_zero] at c1 c2
  cases od with
  | true =>
    go_enter Try.func27, Try.ntmps27
    go_wp2
    go_ret
    refine ⟨rfl, ⟨((hr.set_ 0 _).far hne _).alloc _, ((hg.far (Ne.symm hne) _).set_ 0 _).alloc _⟩, fun B h1 h2 h3 => (((Below.refl B w).setCell h1 _).setCell h2 _).alloc (by simpa using h3) _, (((Iters.refl w).set_ hr _).set_ (hg.far (Ne.symm hne) _) _).alloc _⟩
  | false =>
    go_enter Try.func27, Try.ntmps27
    go_wp2_with (go_at_call 28; refine (allowed_any _ _).mono ?_; rintro e w' ⟨rfl, rfl⟩)
    go_ret
    refine ⟨rfl, ⟨((hr.set_ 0 _).far hne _).alloc _, ((hg.far (Ne.symm hne) _).set_ 0 _).alloc _⟩, fun B h1 h2 h3 => (((Below.refl B w).setCell h1 _).setCell h2 _).alloc (by simpa using h3) _, (((Iters.refl w).set_ hr _).set_ (hg.far (Ne.symm hne) _) _).alloc _⟩
theorem run_is (xs : List It) : ∀ a : Nat, ∃ n, Tl.run (fun (st : Nat × Bool) (x : It) => (st.1 + 1, Tl.sgn x)) (fun _ x => Tl.sgn x) (a, true) xs = (n, xs.all Tl.sgn) ∧ n ≤ a + xs.length ∧ (xs.all Tl.sgn = true → n = a + xs.length) := by
  induction xs with
  | nil => intro a; exact ⟨a, rfl, by simp, by simp⟩
  | cons x xs ih =>
    intro a
    unfold Tl.run
    cases h : Tl.sgn x
    · exact ⟨a + 1, by simp [h], by simp, by simp [h]⟩
    · obtain ⟨n, h1, h2, h3⟩ := ih (a + 1)
      refine ⟨n, by simp [h, h1], by simp only [List.length_cons]; omega, fun ha => ?_⟩
      simp only [List.all_cons, h, Bool.true_and] at ha
      have := h3 ha
      simp only [List.length_cons]; omega
theorem fold_is (xs : List It) : ∀ (a : Nat) (b : Bool), (xs.foldl (fun (st : Nat × Bool) (x : It) => (st.1 + 1, Tl.sgn x)) (a, b)).1 = a + xs.length := by
  induction xs with
  | nil => intro a b; simp
  | cons x xs ih =>
    intro a b
    rw [List.foldl_cons, ih, List.length_cons]; omega

set_option maxHeartbeats 1000000 in
theorem is_loop (l : List UInt8) (w : World) (hl : l.length < 1099511627776) (gr gg : Nat) (hr : Blk w gr 3 [.int .i64 0]) (hg : Blk w gg 4 [.bool true]) (hne : gr ≠ gg) (B : Nat) (h1 : B ≤ gr) (h2 : B ≤ gg) :
    Calls Try.prog 24 #[.string ⟨l.toArray⟩, .func (.func 27) #[] #[.pointer (some ⟨gr, 0, none⟩), .pointer (some ⟨gg, 0, none⟩)]] w fun e w' => e = .returned (.tuple #[]) ∧
      ∃ n : Nat, (Blk w' gr 3 [.int .i64 (n : Int)] ∧ Blk w' gg 4 [.bool ((Tl.runes l).all Tl.sgn)]) ∧ n ≤ (Tl.runes l).length ∧ ((Tl.runes l).all Tl.sgn = true → n = (Tl.runes l).length) ∧ Below B w w' := by
  refine (visit_any ⟨l.toArray⟩ (by rw [ba_size]; omega) 27 _ _ (fun (st : Nat × Bool) w' => Blk w' gr 3 [.int .i64 (st.1 : Int)] ∧ Blk w' gg 4 [.bool st.2])
    (fun (st : Nat × Bool) (x : It) => (st.1 + 1, Tl.sgn x)) (fun _ x => Tl.sgn x) (0, true) B w (Nat.le_trans h1 (Nat.le_of_lt hr.lt)) (enters_of Try.func27 (by kernel_rfl) rfl) (fun st w1 w2 h hs => ⟨h.1.stay hs, h.2.stay hs⟩) ?_ ⟨hr, hg⟩).mono ?_
  · intro pre x post w1 hpre hI
    have hbd := fold_is pre 0 true
    have hlen := Tl.runes_len l
    have hpl : pre.length ≤ l.length := by
      have := congrArg List.length (show Tl.runes l = pre ++ x :: post from hpre)
      rw [List.length_append, List.length_cons] at this
      omega
    generalize pre.foldl (fun (st : Nat × Bool) (x : It) => (st.1 + 1, Tl.sgn x)) (0, true) = st at *
    obtain ⟨a, b⟩ := st
    refine (is1_any x gr gg a b w1 hI.1 hI.2 hne (by simp only at hbd; omega)).mono ?_
    rintro e w2 ⟨rfl, hI2, hB, hit⟩
    exact ⟨rfl, hI2, hB _ h1 h2 (Nat.le_trans h1 (Nat.le_of_lt hI.1.lt)), hit⟩
  · rintro e w2 ⟨rfl, hI, hB⟩
    obtain ⟨n, e1, e2, e3⟩ := run_is (Tl.runes l) 0
    rw [show (⟨l.toArray⟩ : ByteArray).data.toList = l from rfl, e1] at hI
    exact ⟨rfl, n, hI, by omega, fun h => by have := e3 h; omega, hB⟩

theorem ba_eq (l m : List UInt8) : ((⟨l.toArray⟩ : ByteArray).toList == m) = (l == m) := by rw [ba_toList]

set_option maxHeartbeats 1000000 in
theorem is_any (l : List UInt8) (w : World) (hl : l.length < 1099511627776) :
    Calls Try.prog 13 #[.string ⟨l.toArray⟩] w fun e w' => e = .returned (.bool (Tl.isN l)) ∧ Below w.heap.size w w' := by
  have hsz := ba_size l
  have e1 : (⟨l.toArray⟩ : ByteArray).toList = l := ba_toList l
  generalize hs : (⟨l.toArray⟩ : ByteArray) = s at *
  by_cases h1 : l.length < 1
  · have H := Lib.hid (show Tl.isN l = false by unfold Tl.isN; rw [decide_eq_false (show ¬ 1 ≤ l.length by omega)]; simp)
    have h1' : (s.size : Int) < 1 := by omega
    clear hsz hs e1
    go_enter Try.func13, Try.ntmps13
    go_wp2
    go_ret
    exact ⟨by rw [H.out]; rfl, Below.refl _ _⟩
  · have g1 : ¬ (s.size : Int) < 1 := by omega
    by_cases h2 : 24 < l.length
    · have H := Lib.hid (show Tl.isN l = false by unfold Tl.isN; rw [decide_eq_false (show ¬ l.length ≤ 24 by omega)]; simp)
      have g2 : (24 : Int) < s.size := by omega
      clear hsz hs e1
      go_enter Try.func13, Try.ntmps13
      go_wp2
      go_ret
      exact ⟨by rw [H.out]; rfl, Below.refl _ _⟩
    · have g2 : ¬ (24 : Int) < s.size := by omega
      by_cases h3 : l = [46]
      · have H := Lib.hid (show Tl.isN l = false by subst h3; unfold Tl.isN; simp)
        have g3 : (s.toList == [46]) = true := by rw [e1, h3]; rfl
        clear hsz hs e1 h3
        go_enter Try.func13, Try.ntmps13
        go_wp2
        go_ret
        exact ⟨by rw [H.out]; rfl, Below.refl _ _⟩
      · have g3 : (s.toList == [46]) = false := by rw [e1]; simpa using h3
        by_cases h4 : l = [46, 46]
        · have H := Lib.hid (show Tl.isN l = false by subst h4; unfold Tl.isN; simp)
          have g4 : (s.toList == [46, 46]) = true := by rw [e1, h4]; rfl
          clear hsz hs e1 h3 h4
          go_enter Try.func13, Try.ntmps13
          go_wp2
          go_ret
          exact ⟨by rw [H.out]; rfl, Below.refl _ _⟩
        · have g4 : (s.toList == [46, 46]) = false := by rw [e1]; simpa using h4
          have H := Lib.hid (show Tl.isN l = ((Tl.runes l).all Tl.sgn && decide ((Tl.runes l).length ≤ 16)) by
            unfold Tl.isN
            rw [decide_eq_true (show 1 ≤ l.length by omega), decide_eq_true (show l.length ≤ 24 by omega), show (l != [46]) = true from bne_iff_ne.2 h3, show (l != [46, 46]) = true from bne_iff_ne.2 h4]
            simp)
          have hrl := Tl.runes_len l
          have HS := Lib.hid hs
          clear hsz hs e1 h3 h4
          go_enter Try.func13, Try.ntmps13
          go_wp2_with fail
          have hk1 := (Blk.new w 3 #[.int .i64 0]).alloc (.cells #[.bool true] 4)
          have hk2 := Blk.new (w.alloc (.cells #[.int .i64 0] 3)) 4 #[.bool true]
          have hb := ((Below.refl w.heap.size w).alloc (Nat.le_refl _) (.cells #[.int .i64 0] 3)).alloc (by simp) (.cells #[.bool true] 4)
          simp only [World.size_alloc] at hk2
          generalize (w.alloc (.cells #[.int .i64 0] 3)).alloc (.cells #[.bool true] 4) = W at *
          rw [← HS.out]
          refine (is_loop l W hl _ _ hk1 hk2 (by omega) w.heap.size (Nat.le_refl _) (Nat.le_succ _)).mono ?_
          rintro e w2 ⟨rfl, n, hI, hn1, hn2, hB⟩
          have HB := hb.trans hB
          have c1 := hI.1.cell 0
          have c2 := hI.2.cell 0
          simp only [List.getElem?_cons_zero] at c1 c2
          generalize (Tl.runes l).length = R at *
          have HN := Lib.hid hn2
          clear hI hn2 hk1 hk2 hb
          generalize hal : (Tl.runes l).all Tl.sgn = al at *
          clear hal
          cases al with
          | true =>
            go_wp2
            go_ret
            refine ⟨?_, HB⟩
            rw [H.out, ← HN.out (by trivial)]
            go_num
          | false =>
            go_wp2
            go_ret
            exact ⟨by rw [H.out]; rfl, HB⟩

/-! ### Head -/
def headStep (st : Int × Nat) (x : It) : Int × Nat := if st.1 < 1 then st else (st.1 - 1, st.2 + x.s.length)
theorem run_head (xs : List It) : ∀ (n : Int) (e : Nat), (Tl.run headStep (fun st _ => !decide (st.1 < 1)) (n, e) xs).2 = e + ((xs.take n.toNat).flatMap It.s).length := by
  induction xs with
  | nil => intro n e; simp [Tl.run]
  | cons x xs ih =>
    intro n e
    unfold Tl.run headStep
    by_cases h : n < 1
    · simp only [h, decide_true, Bool.not_true, Bool.false_eq_true, if_false, if_true]
      rw [show n.toNat = 0 by omega]
      simp
    · simp only [h, decide_false, Bool.not_false, if_true, if_false]
      have := ih (n - 1) (e + x.s.length)
      unfold headStep at this
      rw [this, show n.toNat = (n - 1).toNat + 1 by omega, List.take_succ_cons, List.flatMap_cons, List.length_append]
      omega
theorem fold_head (xs : List It) : ∀ (n : Int) (e : Nat), (xs.foldl headStep (n, e)).1 ≤ n ∧ (xs.foldl headStep (n, e)).2 ≤ e + (xs.flatMap It.s).length := by
  induction xs with
  | nil => intro n e; simp
  | cons x xs ih =>
    intro n e
    rw [List.foldl_cons, List.flatMap_cons, List.length_append]
    unfold headStep
    by_cases h : n < 1
    · simp only [h, if_true]
      have := ih n e
      unfold headStep at this
      omega
    · simp only [h, if_false]
      have := ih (n - 1) (e + x.s.length)
      unfold headStep at this
      omega

set_option maxHeartbeats 400000 in
theorem head1_any (x : It) (gn ge : Nat) (n : Int) (e : Nat) (w : World) (hn : Blk w gn 3 [.int .i64 n]) (he : Blk w ge 3 [.int .i64 (e : Int)]) (hne : gn ≠ ge) (bn : n ≤ 9223372036854775807) (be : e + x.s.length ≤ 4611686018427387904) :
    Calls Try.prog 32 #[.agg #[.int .i32 (itR x), .string ⟨x.s.toArray⟩, .bool x.odd], .pointer (some ⟨gn, 0, none⟩), .pointer (some ⟨ge, 0, none⟩)] w fun en w' => en = .returned (.bool (!decide (n < 1))) ∧
      (Blk w' gn 3 [.int .i64 (headStep (n, e) x).1] ∧ Blk w' ge 3 [.int .i64 ((headStep (n, e) x).2 : Int)]) ∧ (∀ B, B ≤ gn → B ≤ ge → B ≤ w.heap.size → Below B w w') ∧ Iters w w' := by
  unfold headStep
  obtain ⟨v, xs, od⟩ := x
  have hsz := ba_size xs
  generalize itR ⟨v, xs, od⟩ = ir
  simp only at be ⊢
  have ln := hn.lt
  have le := he.lt
  have c1 := hn.cell 0
  have c2 := he.cell 0
  have f1 := hn.frozen 0
  have f2 := he.frozen 0
  simp only [List.getElem?_cons_zero] at c1 c2
  generalize hs : (⟨xs.toArray⟩ : ByteArray) = s at *
  have HZ := Lib.hid hsz
  have be' : e + s.size ≤ 4611686018427387904 := by omega
  clear hs hsz be
  by_cases h : n < 1
  · rw [if_pos h, decide_eq_true h]
    go_enter Try.func32, Try.ntmps32
    go_wp2
    go_ret
    exact ⟨rfl, ⟨hn.alloc _, he.alloc _⟩, fun B h1 h2 h3 => (Below.refl B w).alloc h3 _, (Iters.refl w).alloc _⟩
  · rw [if_neg h, decide_eq_false h]
    go_enter Try.func32, Try.ntmps32
    go_wp2
    go_ret
    refine ⟨rfl, ⟨((hn.set_ 0 _).far hne _).alloc _, ?_⟩, fun B h1 h2 h3 => (((Below.refl B w).setCell h1 _).setCell h2 _).alloc (by simpa using h3) _, (((Iters.refl w).set_ hn _).set_ (he.far (Ne.symm hne) _) _).alloc _⟩
    rw [← HZ.out]
    exact ((he.far (Ne.symm hne) _).set_ 0 _).alloc _

set_option maxHeartbeats 1000000 in
theorem head_any (l : List UInt8) (n : Int) (w : World) (hl : l.length < 1099511627776) (bn : n ≤ 9223372036854775807) :
    Calls Try.prog 20 #[.string ⟨l.toArray⟩, .int .i64 n] w fun e w' => e = .returned (.string ⟨(Tl.headN l n).toArray⟩) ∧ Below w.heap.size w w' := by
  go_enter Try.func20, Try.ntmps20
  go_wp2_with fail
  have hk1 := (Blk.new w 3 #[.int .i64 n]).alloc (.cells #[.int .i64 0] 3)
  have hk2 := Blk.new (w.alloc (.cells #[.int .i64 n] 3)) 3 #[.int .i64 0]
  have hb := ((Below.refl w.heap.size w).alloc (Nat.le_refl _) (.cells #[.int .i64 n] 3)).alloc (by simp) (.cells #[.int .i64 0] 3)
  simp only [World.size_alloc] at hk2
  generalize (w.alloc (.cells #[.int .i64 n] 3)).alloc (.cells #[.int .i64 0] 3) = W at *
  refine (visit_any ⟨l.toArray⟩ (by rw [ba_size]; omega) 32 _ _ (fun (st : Int × Nat) w' => Blk w' w.heap.size 3 [.int .i64 st.1] ∧ Blk w' (w.heap.size + 1) 3 [.int .i64 (st.2 : Int)])
    headStep (fun st _ => !decide (st.1 < 1)) (n, 0) w.heap.size W hb.size (enters_of Try.func32 (by kernel_rfl) rfl) (fun st w1 w2 h hs => ⟨h.1.stay hs, h.2.stay hs⟩) ?_ ⟨hk1, hk2⟩).mono ?_
  · intro pre x post w1 hpre hI
    have hbd := fold_head pre n 0
    have hfl := congrArg List.length (Tl.flat l)
    rw [show Tl.runes l = pre ++ x :: post from hpre, List.flatMap_append, List.flatMap_cons, List.length_append, List.length_append] at hfl
    generalize pre.foldl headStep (n, 0) = st at *
    obtain ⟨a, b⟩ := st
    simp only at hbd
    refine (head1_any x w.heap.size (w.heap.size + 1) a b w1 hI.1 hI.2 (by omega) (by omega) (by omega)).mono ?_
    rintro e w2 ⟨rfl, hI2, hB, hit⟩
    exact ⟨rfl, hI2, hB _ (Nat.le_refl _) (Nat.le_succ _) (Nat.le_of_lt hI.1.lt), hit⟩
  · rintro e w2 ⟨rfl, hI, hB⟩
    have hr := run_head (Tl.runes l) n 0
    rw [show (⟨l.toArray⟩ : ByteArray).data.toList = l from rfl] at hI
    have HB := hb.trans hB
    have c2 := hI.2.cell 0
    simp only [List.getElem?_cons_zero] at c2
    rw [hr, Nat.zero_add] at c2
    have hp := Tl.head_pre l n
    have e1 : (((Tl.runes l).take n.toNat).flatMap It.s).length = (Tl.headN l n).length := rfl
    rw [e1] at c2
    have HH := Lib.hid (show (⟨(Tl.headN l n).toArray⟩ : ByteArray) = (⟨l.toArray⟩ : ByteArray).extract 0 (Tl.headN l n).length by rw [ba_take, hp.2])
    have hle : (Tl.headN l n).length ≤ (⟨l.toArray⟩ : ByteArray).size := by rw [ba_size]; exact hp.1
    generalize (Tl.headN l n).length = E at *
    clear hI hB hr e1 hp hk1 hk2 hb
    generalize hs : (⟨l.toArray⟩ : ByteArray) = s at *
    clear hs
    have g1 : (0 : Int) ≤ (E : Int) := by omega
    have g2 : (E : Int) ≤ s.size := by omega
    go_wp2
    go_ret
    refine ⟨?_, HB⟩
    rw [HH.out]
    simp

/-! ### Order -/
set_option maxHeartbeats 400000 in
theorem isNaN_any (s : ByteArray) (w : World) :
    Calls Try.prog 41 #[.string s] w fun e w' => e = .returned (.bool false) ∧ w = w' := by
  have h : (s.toList != s.toList) = false := by simp
  go_enter Try.func41, Try.ntmps41
  go_wp2
  go_ret
  exact ⟨by simp, rfl⟩
set_option maxHeartbeats 400000 in
theorem order_any (a b : List UInt8) (w : World) :
    Calls Try.prog 21 #[.string ⟨a.toArray⟩, .string ⟨b.toArray⟩] w fun e w' => e = .returned (.int .i64 (Tl.ord a b)) ∧ w = w' := by
  have e1 := Tl.bytesLess_ord a b
  have e2 := Tl.bytesLess_ord b a
  have hsw : Tl.ord b a = - Tl.ord a b := Tl.cmpI_swap _ _
  have hbd : -1 ≤ Tl.ord a b ∧ Tl.ord a b ≤ 1 := Tl.cmpI_bound _ _
  have hz := Tl.ord_zero a b
  rw [hsw] at e2
  generalize Tl.ord a b = o at *
  clear hsw
  have f3 : ((⟨a.toArray⟩ : ByteArray).toList == (⟨b.toArray⟩ : ByteArray).toList) = decide (o = 0) := by
    rw [ba_toList, ba_toList, Bool.eq_iff_iff, decide_eq_true_iff, hz, beq_iff_eq]
  have f1 : Op.bytesLess (⟨a.toArray⟩ : ByteArray).toList (⟨b.toArray⟩ : ByteArray).toList = decide (o = -1) := by rw [ba_toList, ba_toList]; exact e1
  have f2 : Op.bytesLess (⟨b.toArray⟩ : ByteArray).toList (⟨a.toArray⟩ : ByteArray).toList = decide (-o = -1) := by rw [ba_toList, ba_toList]; exact e2
  generalize (⟨a.toArray⟩ : ByteArray) = s at *
  generalize (⟨b.toArray⟩ : ByteArray) = t at *
  clear e1 e2 hz
  have hc : Calls Try.prog 33 #[.string s, .string t] w fun e w' => e = .returned (.int .i64 o) ∧ w = w' := by
    rcases (by omega : o = -1 ∨ o = 0 ∨ o = 1) with rfl | rfl | rfl
    all_goals
      simp only [Int.reduceNeg, Int.reduceEq, decide_false, decide_true, Int.neg_zero, Int.neg_neg] at f1 f2 f3
      go_enter Try.func33, Try.ntmps33
      go_wp2_with (go_at_call 41; refine (isNaN_any _ _).mono ?_; rintro e w' ⟨rfl, rfl⟩)
      go_ret
      exact ⟨rfl, rfl⟩
  clear f1 f2 f3
  go_enter Try.func21, Try.ntmps21
  go_wp2_with (go_at_call 33; refine hc.mono ?_; rintro e w' ⟨rfl, rfl⟩)
  go_ret
  exact ⟨rfl, rfl⟩

/-! ### Fold -/
def Fz (w : World) (g : Nat) (t : TypeId) (cs : List Value) (c : Nat) : Prop := w.heap[g]? = some (.cells cs.toArray t (c, c + 1))
theorem Fz.cell {w : World} {g : Nat} {t : TypeId} {cs : List Value} {c : Nat} (h : Fz w g t cs c) (i : Nat) : w.cell? ⟨g, i, none⟩ = cs[i]? := by
  rw [cell_of_row w g i cs.toArray t (c, c + 1) h]; simp
theorem Fz.frozen {w : World} {g : Nat} {t : TypeId} {cs : List Value} {c : Nat} (h : Fz w g t cs c) (i : Nat) (hi : i < c) : w.frozen? ⟨g, i, none⟩ = false := by
  unfold Fz at h
  simp [World.frozen?, h]
  omega
theorem Fz.set_ {w : World} {g : Nat} {t : TypeId} {cs : List Value} {c : Nat} (h : Fz w g t cs c) (i : Nat) (u : Value) : Fz (w.setCell ⟨g, i, none⟩ u) g t (cs.set i u) c := by
  unfold Fz at h ⊢
  simp [World.setCell, Array.getElem?_modify, h]
theorem fold_at (l : List UInt8) (k : Nat) (h : k < l.length) (pad : List Value) (ch : UInt8) (hch : l[k] = ch) :
    (((Tl.fold (l.take k) ++ l.drop k).map fun c => Value.int .u8 (c.toNat : Int)) ++ pad)[k]? = some (.int .u8 (ch.toNat : Int)) ∧
    (((Tl.fold (l.take k) ++ l.drop k).map fun c => Value.int .u8 (c.toNat : Int)) ++ pad).set k (.int .u8 ((Tl.foldc ch).toNat : Int)) = ((Tl.fold (l.take (k + 1)) ++ l.drop (k + 1)).map fun c => Value.int .u8 (c.toNat : Int)) ++ pad := by
  have hfl : (Tl.fold (l.take k)).length = k := by rw [Tl.length_fold, List.length_take]; omega
  have hd : l.drop k = ch :: l.drop (k + 1) := by rw [← hch]; exact List.drop_eq_getElem_cons h
  have ht : Tl.fold (l.take (k + 1)) = Tl.fold (l.take k) ++ [Tl.foldc ch] := by
    rw [List.take_succ_eq_append_getElem h, hch]; simp [Tl.fold]
  rw [hd, ht]
  constructor
  · rw [List.getElem?_append_left (by rw [List.length_map, List.length_append, hfl, List.length_cons]; omega), List.getElem?_map, List.getElem?_append_right (by omega), hfl]
    simp
  · rw [List.map_append, List.append_assoc, List.set_append_right _ _ (by rw [List.length_map]; omega), List.length_map, hfl, Nat.sub_self]
    simp
theorem set_same {α : Type} (l : List α) (k : Nat) (v : α) (h : l[k]? = some v) : l.set k v = l := by
  apply List.ext_getElem? fun i => ?_
  rw [List.getElem?_set]
  by_cases hi : k = i
  · subst hi
    rw [if_pos rfl, h, if_pos (List.getElem?_eq_some_iff.1 h).1]
  · rw [if_neg hi]
theorem foldc_val (c : UInt8) (h1 : 65 ≤ c.toNat) (h2 : c.toNat ≤ 90) : ((Tl.foldc c).toNat : Int) = (c.toNat : Int) - 65 + 97 := by
  rw [Tl.foldc_nat, if_pos ⟨h1, h2⟩]; omega
theorem foldc_id (c : UInt8) (h : ¬ (65 ≤ c.toNat ∧ c.toNat ≤ 90)) : Tl.foldc c = c := by
  unfold Tl.foldc; rw [if_neg h]

set_option maxHeartbeats 1000000 in
theorem foldT_any (l : List UInt8) (w : World) (hl : l.length < 1099511627776) :
    Calls Try.prog 16 #[.string ⟨l.toArray⟩] w fun e w' => e = .returned (.string ⟨(Tl.fold l).toArray⟩) ∧ Below w.heap.size w w' := by
  have hcv := Lib.run_convert_string_bytes (P := Try.prog) w 9 43 5 ⟨l.toArray⟩ Try.underlying9 Try.underlying43 Try.underlying5
  rw [ba_size] at hcv
  have hge := grownCap_ge w l.length 0 5
  have hle := grownCap_le_maxLen w l.length 0 5 (by rw [maxLen_eq]; omega)
  rw [maxLen_eq] at hle
  have hnew := Lib.bytesWorld_at_new w 5 ⟨l.toArray⟩
  have hbc : Lib.bytesCells w 5 ⟨l.toArray⟩ = ((l.map fun c : UInt8 => Value.int .u8 (c.toNat : Int)) ++ List.replicate (grownCap w l.length 0 5 - l.length) (Value.int .u8 0)).toArray := by
    unfold Lib.bytesCells
    rw [ba_size]
    simp
  have hb0 : Below w.heap.size w (Lib.bytesWorld w 5 ⟨l.toArray⟩) := ⟨rfl, rfl, rfl, by rw [Lib.bytesWorld_size]; omega, fun k hk => Lib.bytesWorld_at_old w _ _ k hk⟩
  rw [hbc] at hnew
  generalize Lib.bytesWorld w 5 ⟨l.toArray⟩ = W at *
  generalize grownCap w l.length 0 5 = c at *
  have hf0 : Fz W w.heap.size 5 ((l.map fun c : UInt8 => Value.int .u8 (c.toNat : Int)) ++ List.replicate (c - l.length) (.int .u8 0)) c := by
    unfold Fz
    rw [hnew]
    simp
    omega
  generalize List.replicate (c - l.length) (Value.int .u8 0) = pad at *
  clear hnew hbc
  generalize hg : w.heap.size = g at *
  have HG := Lib.hid hg
  clear hg
  go_enter Try.func16, Try.ntmps16
  go_wp2
  clear hcv
  go_loopw [10] (fun i wr => ∃ k : Nat, k ≤ l.length ∧ i = .int .i64 k ∧ Fz wr g 5 (((Tl.fold (l.take k) ++ l.drop k).map fun c => Value.int .u8 (c.toNat : Int)) ++ pad) c ∧ Below g w wr) (fun i _ => l.length - (intOf i).toNat)
  case atStart => exact ⟨0, Nat.zero_le _, rfl, hf0, hb0⟩
  case round =>
    obtain ⟨k, hk, rfl, hf, hb⟩ := hrel
    clear hf0 hb0
    by_cases hlt : k < l.length
    · obtain ⟨ch, hch⟩ : ∃ ch, l[k] = ch := ⟨_, rfl⟩
      obtain ⟨q1, q2⟩ := fold_at l k hlt pad ch hch
      have hc1 := (hf.cell k).trans q1
      have hfz := hf.frozen k (by omega)
      have hcl := ch.toNat_lt
      have Q2 := Lib.hid q2
      have Q1 := Lib.hid (set_same _ k _ q1)
      clear q1 q2 hch
      by_cases h1 : 65 ≤ ch.toNat
      · by_cases h2 : ch.toNat ≤ 90
        · have HV := Lib.hid (foldc_val ch h1 h2)
          go_wp2
          go_roundw
          case rel =>
            refine ⟨k + 1, by omega, by go_num, ?_, hb.setCell (Nat.le_refl _) _⟩
            rw [← Q2.out, HV.out]
            exact hf.set_ k _
          case measure => simp [intOf]; omega
        · have HI := Lib.hid (foldc_id ch (by omega))
          go_wp2
          go_roundw
          case rel =>
            refine ⟨k + 1, by omega, by go_num, ?_, hb⟩
            rw [← Q2.out, HI.out, Q1.out]
            exact hf
          case measure => simp [intOf]; omega
      · have HI := Lib.hid (foldc_id ch (by omega))
        go_wp2
        go_roundw
        case rel =>
          refine ⟨k + 1, by omega, by go_num, ?_, hb⟩
          rw [← Q2.out, HI.out, Q1.out]
          exact hf
        case measure => simp [intOf]; omega
    · obtain rfl : k = l.length := by omega
      have hbs : Bs wr (g + 1) (.slice (some ⟨g, 0, none⟩) l.length c) (Tl.fold l) := by
        refine ⟨_, _, by rw [Tl.length_fold], by rw [Tl.length_fold]; exact hge, by rw [maxLen_eq]; exact hle, by simp, fun _ => ⟨g, 0, rfl, by omega, fun j u hu => ?_⟩⟩
        rw [hf.cell, Nat.zero_add, List.take_length, List.drop_length, List.append_nil, List.getElem?_append_left (List.getElem?_eq_some_iff.1 hu).1]
        exact hu
      have hst := run_string_of (P := Try.prog) hbs 43 9 5 Try.underlying43 Try.underlying5 Try.underlying9
      clear hbs hf
      go_wp2
      go_ret
      exact ⟨rfl, hb⟩
end Go.Proofs.Ytkgegjifnegknaa
