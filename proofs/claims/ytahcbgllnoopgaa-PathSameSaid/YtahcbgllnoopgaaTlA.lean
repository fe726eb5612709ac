/-
  Is and Order of package title. By an AI agent.
-/
import Derived.Test.YtahcbgllnoopgaaTitleV
import Derived.Test.YtahcbgllnoopgaaTitleQ
import Derived.Shelf.Abstract
import Derived.WalkLawsBesides
namespace Go.Proofs.Ytahcbgllnoopgaa
open Go.RowKit
open Tl (It)

def alw (r : Int) : Bool := decide (32 ≤ r) && r != 127 && r != 47
theorem sgn_alw (x : It) : Tl.sgn x = (!x.odd && alw (itR x)) := by
  unfold Tl.sgn alw itR
  cases x.odd <;> simp [Bool.and_assoc]
set_option maxHeartbeats 400000 in
theorem allowed_any (r : Int) (w : World) :
    Calls Try.prog 32 #[.int .i32 r] w fun e w' => e = .returned (.bool (alw r)) ∧ w = w' := by
  unfold alw
  by_cases h1 : 32 ≤ r
  · have h1' : decide (32 ≤ r) = true := by simpa using h1
    cases h2 : (r != 127)
    · go_enter Try.func32, Try.ntmps32
      go_wp2
      go_ret
      exact ⟨by simp, rfl⟩
    · go_enter Try.func32, Try.ntmps32
      go_wp2
      go_ret
      exact ⟨by simp [h1], rfl⟩
  · have h1' : decide (32 ≤ r) = false := by simpa using h1
    go_enter Try.func32, Try.ntmps32
    go_wp2
    go_ret
    exact ⟨by simp, rfl⟩
theorem Iters.refl (w : World) : Iters w w := fun _ _ _ h => h
theorem Iters.trans {a b c : World} (h : Iters a b) (k : Iters b c) : Iters a c := fun i s p hi => k i s p (h i s p hi)
theorem Iters.alloc {a w : World} (h : Iters a w) (o : Obj) : Iters a (w.alloc o) := fun i s p hi =>
  have h1 := h i s p hi
  (Lib.alloc_old w o i (Array.getElem?_eq_some_iff.1 h1).1).trans h1
theorem Iters.set_ {a w : World} (h : Iters a w) {g i : Nat} {t : TypeId} {cs : List Value} (hg : Blk w g t cs) (u : Value) : Iters a (w.setCell ⟨g, i, none⟩ u) := fun k s p hk => by
  have h1 := h k s p hk
  rw [Below.heap_setCell _ _ _ _ (fun e => by
    subst e
    unfold Blk at hg
    rw [hg] at h1
    cases h1)]
  exact h1
theorem Blk.stay {w w' : World} {g : Nat} {t : TypeId} {cs : List Value} (h : Blk w g t cs) (hs : Stay w w') : Blk w' g t cs := hs g _ h (fun s p e => by cases e)
set_option maxHeartbeats 400000 in
theorem is1_any (x : It) (gr gg r : Nat) (b : Bool) (w : World) (hr : Blk w gr 3 [.int .i64 (r : Int)]) (hg : Blk w gg 4 [.bool b]) (hne : gr ≠ gg) (br : r ≤ 4611686018427387904) :
    Calls Try.prog 31 #[.agg #[.int .i32 (itR x), .string ⟨x.s.toArray⟩, .bool x.odd], .pointer (some ⟨gr, 0, none⟩), .pointer (some ⟨gg, 0, none⟩)] w fun e w' => e = .returned (.bool (Tl.sgn x)) ∧
      (Blk w' gr 3 [.int .i64 ((r + 1 : Nat) : Int)] ∧ Blk w' gg 4 [.bool (Tl.sgn x)]) ∧ (∀ B, B ≤ gr → B ≤ gg → B ≤ w.heap.size → Below B w w') ∧ Iters w w' := by
  rw [sgn_alw]
  obtain ⟨v, xs, od⟩ := x
  generalize itR ⟨v, xs, od⟩ = ir
  have lr := hr.lt
  have lg := hg.lt
  have c1 := hr.cell 0
  have c2 := hg.cell 0
  have f1 := hr.frozen 0
  have f2 := hg.frozen 0
  simp only [List.getElem?_cons_zero] at c1 c2
  cases od with
  | true =>
    go_enter Try.func31, Try.ntmps31
    go_wp2
    go_ret
    refine ⟨rfl, ⟨((hr.set_ 0 _).far hne _).alloc _, ((hg.far (Ne.symm hne) _).set_ 0 _).alloc _⟩, fun B h1 h2 h3 => (((Below.refl B w).setCell h1 _).setCell h2 _).alloc (by simpa using h3) _, (((Iters.refl w).set_ hr _).set_ (hg.far (Ne.symm hne) _) _).alloc _⟩
  | false =>
    go_enter Try.func31, Try.ntmps31
    go_wp2_with (go_at_call 32; refine (allowed_any _ _).mono ?_; rintro e w' ⟨rfl, rfl⟩)
    go_ret
    refine ⟨rfl, ⟨((hr.set_ 0 _).far hne _).alloc _, ((hg.far (Ne.symm hne) _).set_ 0 _).alloc _⟩, fun B h1 h2 h3 => (((Below.refl B w).setCell h1 _).setCell h2 _).alloc (by simpa using h3) _, (((Iters.refl w).set_ hr _).set_ (hg.far (Ne.symm hne) _) _).alloc _⟩
theorem run_is (xs : List It) : ∀ a : Nat, ∃ n, Tl.run (fun (st : Nat × Bool) (x : It) => (st.1 + 1, Tl.sgn x)) (fun _ x => Tl.sgn x) (a, true) xs = (n, xs.all Tl.sgn) ∧ n ≤ a + xs.length ∧ (xs.all Tl.sgn = true → n = a + xs.length) := by
  induction xs with
  | nil => intro a; exact ⟨a, rfl, by simp, by simp⟩
  | cons x xs ih =>
    intro a
    unfold Tl.run
    cases h : Tl.sgn x
    · exact ⟨a + 1, by simp [h], by simp, by simp [h]⟩
    · obtain ⟨n, h1, h2, h3⟩ := ih (a + 1)
      refine ⟨n, by simp [h, h1], by simp only [List.length_cons]; omega, fun ha => ?_⟩
      simp only [List.all_cons, h, Bool.true_and] at ha
      have := h3 ha
      simp only [List.length_cons]; omega
theorem fold_is (xs : List It) : ∀ (a : Nat) (b : Bool), (xs.foldl (fun (st : Nat × Bool) (x : It) => (st.1 + 1, Tl.sgn x)) (a, b)).1 = a + xs.length := by
  induction xs with
  | nil => intro a b; simp
  | cons x xs ih =>
    intro a b
    rw [List.foldl_cons, ih, List.length_cons]; omega
set_option maxHeartbeats 1000000 in
theorem is_loop (l : List UInt8) (w : World) (hl : l.length < 1099511627776) (gr gg : Nat) (hr : Blk w gr 3 [.int .i64 0]) (hg : Blk w gg 4 [.bool true]) (hne : gr ≠ gg) (B : Nat) (h1 : B ≤ gr) (h2 : B ≤ gg) :
    Calls Try.prog 30 #[.string ⟨l.toArray⟩, .func (.func 31) #[] #[.pointer (some ⟨gr, 0, none⟩), .pointer (some ⟨gg, 0, none⟩)]] w fun e w' => e = .returned (.tuple #[]) ∧
      ∃ n : Nat, (Blk w' gr 3 [.int .i64 (n : Int)] ∧ Blk w' gg 4 [.bool ((Tl.runes l).all Tl.sgn)]) ∧ n ≤ (Tl.runes l).length ∧ ((Tl.runes l).all Tl.sgn = true → n = (Tl.runes l).length) ∧ Below B w w' := by
  refine (visit_any ⟨l.toArray⟩ (by rw [ba_size]; omega) 31 _ _ (fun (st : Nat × Bool) w' => Blk w' gr 3 [.int .i64 (st.1 : Int)] ∧ Blk w' gg 4 [.bool st.2])
    (fun (st : Nat × Bool) (x : It) => (st.1 + 1, Tl.sgn x)) (fun _ x => Tl.sgn x) (0, true) B w (Nat.le_trans h1 (Nat.le_of_lt hr.lt)) (enters_of Try.func31 (by kernel_rfl) rfl) (fun st w1 w2 h hs => ⟨h.1.stay hs, h.2.stay hs⟩) ?_ ⟨hr, hg⟩).mono ?_
  · intro pre x post w1 hpre hI
    have hbd := fold_is pre 0 true
    have hlen := Tl.runes_len l
    have hpl : pre.length ≤ l.length := by
      have := congrArg List.length (show Tl.runes l = pre ++ x :: post from hpre)
      rw [List.length_append, List.length_cons] at this
      omega
    generalize pre.foldl (fun (st : Nat × Bool) (x : It) => (st.1 + 1, Tl.sgn x)) (0, true) = st at *
    obtain ⟨a, b⟩ := st
    refine (is1_any x gr gg a b w1 hI.1 hI.2 hne (by simp only at hbd; omega)).mono ?_
    rintro e w2 ⟨rfl, hI2, hB, hit⟩
    exact ⟨rfl, hI2, hB _ h1 h2 (Nat.le_trans h1 (Nat.le_of_lt hI.1.lt)), hit⟩
  · rintro e w2 ⟨rfl, hI, hB⟩
    obtain ⟨n, e1, e2, e3⟩ := run_is (Tl.runes l) 0
    rw [show (⟨l.toArray⟩ : ByteArray).data.toList = l from rfl, e1] at hI
    exact ⟨rfl, n, hI, by omega, fun h => by have := e3 h; omega, hB⟩
theorem ba_eq (l m : List UInt8) : ((⟨l.toArray⟩ : ByteArray).toList == m) = (l == m) := by rw [ba_toList]
set_option maxHeartbeats 1000000 in
theorem is_any (l : List UInt8) (w : World) (hl : l.length < 1099511627776) :
    Calls Try.prog 21 #[.string ⟨l.toArray⟩] w fun e w' => e = .returned (.bool (Tl.isN l)) ∧ Below w.heap.size w w' := by
  have hsz := ba_size l
  have e1 : (⟨l.toArray⟩ : ByteArray).toList = l := ba_toList l
  generalize hs : (⟨l.toArray⟩ : ByteArray) = s at *
  by_cases h1 : l.length < 1
  · have H := Lib.hid (show Tl.isN l = false by unfold Tl.isN; rw [decide_eq_false (show ¬ 1 ≤ l.length by omega)]; simp)
    have h1' : (s.size : Int) < 1 := by omega
    clear hsz hs e1
    go_enter Try.func21, Try.ntmps21
    go_wp2
    go_ret
    exact ⟨by rw [H.out]; rfl, Below.refl _ _⟩
  · have g1 : ¬ (s.size : Int) < 1 := by omega
    by_cases h2 : 24 < l.length
    · have H := Lib.hid (show Tl.isN l = false by unfold Tl.isN; rw [decide_eq_false (show ¬ l.length ≤ 24 by omega)]; simp)
      have g2 : (24 : Int) < s.size := by omega
      clear hsz hs e1
      go_enter Try.func21, Try.ntmps21
      go_wp2
      go_ret
      exact ⟨by rw [H.out]; rfl, Below.refl _ _⟩
    · have g2 : ¬ (24 : Int) < s.size := by omega
      by_cases h3 : l = [46]
      · have H := Lib.hid (show Tl.isN l = false by subst h3; unfold Tl.isN; simp)
        have g3 : (s.toList == [46]) = true := by rw [e1, h3]; rfl
        clear hsz hs e1 h3
        go_enter Try.func21, Try.ntmps21
        go_wp2
        go_ret
        exact ⟨by rw [H.out]; rfl, Below.refl _ _⟩
      · have g3 : (s.toList == [46]) = false := by rw [e1]; simpa using h3
        by_cases h4 : l = [46, 46]
        · have H := Lib.hid (show Tl.isN l = false by subst h4; unfold Tl.isN; simp)
          have g4 : (s.toList == [46, 46]) = true := by rw [e1, h4]; rfl
          clear hsz hs e1 h3 h4
          go_enter Try.func21, Try.ntmps21
          go_wp2
          go_ret
          exact ⟨by rw [H.out]; rfl, Below.refl _ _⟩
        · have g4 : (s.toList == [46, 46]) = false := by rw [e1]; simpa using h4
          have H := Lib.hid (show Tl.isN l = ((Tl.runes l).all Tl.sgn && decide ((Tl.runes l).length ≤ 16)) by
            unfold Tl.isN
            rw [decide_eq_true (show 1 ≤ l.length by omega), decide_eq_true (show l.length ≤ 24 by omega), show (l != [46]) = true from bne_iff_ne.2 h3, show (l != [46, 46]) = true from bne_iff_ne.2 h4]
            simp)
          have hrl := Tl.runes_len l
          have HS := Lib.hid hs
          clear hsz hs e1 h3 h4
          go_enter Try.func21, Try.ntmps21
          go_wp2_with fail
          have hk1 := (Blk.new w 3 #[.int .i64 0]).alloc (.cells #[.bool true] 4)
          have hk2 := Blk.new (w.alloc (.cells #[.int .i64 0] 3)) 4 #[.bool true]
          have hb := ((Below.refl w.heap.size w).alloc (Nat.le_refl _) (.cells #[.int .i64 0] 3)).alloc (by simp) (.cells #[.bool true] 4)
          simp only [World.size_alloc] at hk2
          generalize (w.alloc (.cells #[.int .i64 0] 3)).alloc (.cells #[.bool true] 4) = W at *
          rw [← HS.out]
          refine (is_loop l W hl _ _ hk1 hk2 (by omega) w.heap.size (Nat.le_refl _) (Nat.le_succ _)).mono ?_
          rintro e w2 ⟨rfl, n, hI, hn1, hn2, hB⟩
          have HB := hb.trans hB
          have c1 := hI.1.cell 0
          have c2 := hI.2.cell 0
          simp only [List.getElem?_cons_zero] at c1 c2
          generalize (Tl.runes l).length = R at *
          have HN := Lib.hid hn2
          clear hI hn2 hk1 hk2 hb
          generalize hal : (Tl.runes l).all Tl.sgn = al at *
          clear hal
          cases al with
          | true =>
            go_wp2
            go_ret
            refine ⟨?_, HB⟩
            rw [H.out, ← HN.out (by trivial)]
            go_num
          | false =>
            go_wp2
            go_ret
            exact ⟨by rw [H.out]; rfl, HB⟩
end Go.Proofs.Ytahcbgllnoopgaa
