/-
  The walks of packages addr (May) and label. By an AI agent.
-/
import Derived.Test.YtmcgadhahhfflaaDoorLabelP
import Derived.Test.YtmcgadhahhfflaaDoorPackW
import Derived.Test.YtmcgadhahhfflaaDoorCrcW
namespace Go.Proofs.YtmcgadhahhfflaaDoor
open Go.RowKit

/-! ### addr.May -/
set_option maxHeartbeats 400000 in
theorem between_any (lo hi : Int) (w : World) :
    Calls Tryd.prog 31 #[.int .i64 lo, .int .i64 hi] w fun e w' => e = .returned (.func (.func 39) #[] #[.pointer (some ⟨w.heap.size, 0, none⟩), .pointer (some ⟨w.heap.size + 1, 0, none⟩)]) ∧ w' = (w.alloc (.cells #[.int .i64 lo] 3)).alloc (.cells #[.int .i64 hi] 3) := by
  go_enter Tryd.func31, Tryd.ntmps31
  go_wp2
  go_ret
  exact ⟨rfl, rfl⟩
def btw (lo hi n : Int) : Bool := decide (lo ≤ n ∧ n ≤ hi)
set_option maxHeartbeats 400000 in
theorem between1_any (n lo hi : Int) (g1 g2 : Nat) (w : World) (h1 : w.cell? ⟨g1, 0, none⟩ = some (.int .i64 lo)) (h2 : w.cell? ⟨g2, 0, none⟩ = some (.int .i64 hi)) :
    Calls Tryd.prog 39 #[.int .i64 n, .pointer (some ⟨g1, 0, none⟩), .pointer (some ⟨g2, 0, none⟩)] w fun e w' => e = .returned (.bool (btw lo hi n)) ∧ w = w' := by
  by_cases hl : lo ≤ n
  · have H := Lib.hid (show btw lo hi n = decide (n ≤ hi) by unfold btw; simp [hl])
    go_enter Tryd.func39, Tryd.ntmps39
    go_wp2
    go_ret
    exact ⟨by rw [H.out]; rfl, rfl⟩
  · have H := Lib.hid (show btw lo hi n = false by unfold btw; simp [hl])
    go_enter Tryd.func39, Tryd.ntmps39
    go_wp2
    go_ret
    exact ⟨by rw [H.out]; rfl, rfl⟩

theorem alloc2 {w : World} (a b : Value) (t : TypeId) : Below w.heap.size w ((w.alloc (.cells #[a] t)).alloc (.cells #[b] t)) ∧ ((w.alloc (.cells #[a] t)).alloc (.cells #[b] t)).cell? ⟨w.heap.size, 0, none⟩ = some a ∧ ((w.alloc (.cells #[a] t)).alloc (.cells #[b] t)).cell? ⟨w.heap.size + 1, 0, none⟩ = some b ∧ w.heap.size + 1 < ((w.alloc (.cells #[a] t)).alloc (.cells #[b] t)).heap.size := by
  refine ⟨((Below.refl _ _).alloc (Nat.le_refl _) _).alloc (by simp) _, ?_, ?_, by simp⟩
  · simp
  · simp
theorem geoB_eq (d l v s : Int) : Lb.geoB d l v s = (btw 8 256 d && (btw 0 8 v && (btw 1 256 s && btw 1 (d - 6) l))) := by
  unfold Lb.geoB btw
  rw [Bool.eq_iff_iff]
  simp only [Bool.and_eq_true, decide_eq_true_eq]
  omega

set_option maxHeartbeats 2000000 in
theorem addrMay_any (d l v s : Int) (w : World) (hd : -9223372036854775808 ≤ d ∧ d ≤ 9223372036854775807) :
    Calls Tryd.prog 20 #[.agg #[.int .i64 d, .int .i64 l, .int .i64 v, .int .i64 s]] w fun e w' => e = .returned (.bool (Lb.geoB d l v s)) ∧ Below w.heap.size w w' := by
  have HG := Lib.hid (geoB_eq d l v s)
  go_enter Tryd.func20, Tryd.ntmps20
  go_wp2_with fail
  have hk := Blk.new w 23 #[.int .i64 d, .int .i64 l, .int .i64 v, .int .i64 s]
  have hb0 := (Below.refl w.heap.size w).alloc (Nat.le_refl _) (.cells #[.int .i64 d, .int .i64 l, .int .i64 v, .int .i64 s] 23)
  generalize w.alloc (.cells #[.int .i64 d, .int .i64 l, .int .i64 v, .int .i64 s] 23) = w0 at *
  refine (between_any 8 256 _).mono ?_
  rintro e w1 ⟨rfl, hw1⟩
  obtain ⟨b1, x1, y1, z1⟩ := alloc2 (w := w0) (.int .i64 8) (.int .i64 256) 3
  rw [← hw1] at b1 x1 y1 z1
  clear hw1
  have k1 := hk.ext b1
  have c1 := hb0.trans (b1.mono hb0.size)
  go_wp2_with fail
  refine (between_any 0 8 _).mono ?_
  rintro e w2 ⟨rfl, hw2⟩
  obtain ⟨b2, x2, y2, z2⟩ := alloc2 (w := w1) (.int .i64 0) (.int .i64 8) 3
  rw [← hw2] at b2 x2 y2 z2
  clear hw2
  have k2 := k1.ext b2
  have c2 := c1.trans (b2.mono c1.size)
  have x1' := (b2.cell (p := ⟨w0.heap.size, 0, none⟩) (show w0.heap.size < w1.heap.size by omega)).trans x1
  have y1' := (b2.cell (p := ⟨w0.heap.size + 1, 0, none⟩) (show w0.heap.size + 1 < w1.heap.size by omega)).trans y1
  go_wp2_with fail
  refine (between_any 1 256 _).mono ?_
  rintro e w3 ⟨rfl, hw3⟩
  obtain ⟨b3, x3, y3, z3⟩ := alloc2 (w := w2) (.int .i64 1) (.int .i64 256) 3
  rw [← hw3] at b3 x3 y3 z3
  clear hw3
  have k3 := k2.ext b3
  have c3 := c2.trans (b3.mono c2.size)
  have s2 := b2.size
  have x1'' := (b3.cell (p := ⟨w0.heap.size, 0, none⟩) (show w0.heap.size < w2.heap.size by omega)).trans x1'
  have y1'' := (b3.cell (p := ⟨w0.heap.size + 1, 0, none⟩) (show w0.heap.size + 1 < w2.heap.size by omega)).trans y1'
  have x2' := (b3.cell (p := ⟨w1.heap.size, 0, none⟩) (show w1.heap.size < w2.heap.size by omega)).trans x2
  have y2' := (b3.cell (p := ⟨w1.heap.size + 1, 0, none⟩) (show w1.heap.size + 1 < w2.heap.size by omega)).trans y2
  clear x1 y1 x1' y1' x2 y2 b1 b2 b3 k1 k2 c1 c2
  have g0 := k3.cell 0
  have g1 := k3.cell 1
  have g2 := k3.cell 2
  have g3 := k3.cell 3
  simp only [List.getElem?_cons_zero, List.getElem?_cons_succ] at g0 g1 g2 g3
  go_wp2_with fail
  refine (between1_any d 8 256 _ _ _ x1'' y1'').mono ?_
  rintro e w' ⟨rfl, rfl⟩
  cases h1 : btw 8 256 d with
  | false =>
    rw [h1, Bool.false_and] at HG
    clear h1
    go_wp2
    go_ret
    exact ⟨by rw [HG.out]; rfl, c3⟩
  | true =>
    rw [h1, Bool.true_and] at HG
    have hd' : 8 ≤ d ∧ d ≤ 256 := by unfold btw at h1; exact of_decide_eq_true h1
    clear h1
    go_wp2_with fail
    refine (between1_any v 0 8 _ _ _ x2' y2').mono ?_
    rintro e w' ⟨rfl, rfl⟩
    cases h1 : btw 0 8 v with
    | false =>
      rw [h1, Bool.false_and] at HG
      clear h1
      go_wp2
      go_ret
      exact ⟨by rw [HG.out]; rfl, c3⟩
    | true =>
      rw [h1, Bool.true_and] at HG
      clear h1
      go_wp2_with fail
      refine (between1_any s 1 256 _ _ _ x3 y3).mono ?_
      rintro e w' ⟨rfl, rfl⟩
      cases h1 : btw 1 256 s with
      | false =>
        rw [h1, Bool.false_and] at HG
        clear h1
        go_wp2
        go_ret
        exact ⟨by rw [HG.out]; rfl, c3⟩
      | true =>
        rw [h1, Bool.true_and] at HG
        clear h1
        go_wp2_with fail
        refine (between_any 1 (d - 6) _).mono ?_
        rintro e w4 ⟨rfl, hw4⟩
        obtain ⟨b4, x4, y4, z4⟩ := alloc2 (w := w3) (.int .i64 1) (.int .i64 (d - 6)) 3
        rw [← hw4] at b4 x4 y4 z4
        clear hw4 g0 g1 g2 g3
        have k4 := k3.ext b4
        have c4 := c3.trans (b4.mono c3.size)
        have g1 := k4.cell 1
        simp only [List.getElem?_cons_zero, List.getElem?_cons_succ] at g1
        go_wp2_with fail
        refine (between1_any l 1 (d - 6) _ _ _ x4 y4).mono ?_
        rintro e w' ⟨rfl, rfl⟩
        go_wp2
        go_ret
        exact ⟨by rw [HG.out]; rfl, c4⟩

/-! ### label -/
set_option maxHeartbeats 400000 in
theorem labMay_any (v g : Int) (w : World) :
    Calls Tryd.prog 24 #[.int .i64 v, .int .i64 g] w fun e w' => e = .returned (.bool (Lb.labB v g)) ∧ w = w' := by
  by_cases h1 : 0 ≤ v
  · by_cases h2 : v < 8
    · by_cases h3 : 0 ≤ g
      · have H := Lib.hid (show Lb.labB v g = decide (g ≤ 4294967295) by unfold Lb.labB; simp [h1, h2, h3])
        go_enter Tryd.func24, Tryd.ntmps24
        go_wp2
        go_ret
        exact ⟨by rw [H.out]; rfl, rfl⟩
      · have H := Lib.hid (show Lb.labB v g = false by unfold Lb.labB; simp [h3])
        go_enter Tryd.func24, Tryd.ntmps24
        go_wp2
        go_ret
        exact ⟨by rw [H.out]; rfl, rfl⟩
    · have H := Lib.hid (show Lb.labB v g = false by unfold Lb.labB; simp [h2])
      go_enter Tryd.func24, Tryd.ntmps24
      go_wp2
      go_ret
      exact ⟨by rw [H.out]; rfl, rfl⟩
  · have H := Lib.hid (show Lb.labB v g = false by unfold Lb.labB; simp [h1])
    go_enter Tryd.func24, Tryd.ntmps24
    go_wp2
    go_ret
    exact ⟨by rw [H.out]; rfl, rfl⟩

set_option maxHeartbeats 400000 in
theorem numL_any (wd : Int) (v : Nat) (w : World) (hv : v < 9223372036854775808) :
    Calls Tryd.prog 23 #[.int .i64 wd, .int .i64 (v : Int)] w fun e w' => e = .returned (.agg #[.int .i64 wd, .int .u64 (v : Int)]) ∧ Below w.heap.size w w' := by
  go_enter Tryd.func23, Tryd.ntmps23
  go_wp2
  refine bodyPost_ret (v := .agg #[.int .i64 wd, .int .u64 (v : Int)]) (by simp [results, Tryd.results23, go_sem]) rfl ⟨rfl, ?_⟩
  exact (Below.refl _ _).alloc (Nat.le_refl _) _

set_option maxHeartbeats 400000 in
theorem sealL_any (w : World) (v : Value) (L : List (Int × Nat)) (hG : Halves w) (h : Nums w w.heap.size v L) (hn : L.length ≤ 100) (hu : ∀ x ∈ L, x.2 < 18446744073709551616) (hc : ∀ x ∈ L, Pk.chk x = 0) (hl : (Pk.recs L).length ≤ 124) :
    Calls Tryd.prog 22 #[v] w fun e w' => ∃ u, e = .returned (.tuple #[u, .int .i64 0]) ∧ Bs w' w'.heap.size u (Crc.sealed (Pk.recs L)) ∧ Below w.heap.size w w' := by
  have hp := Pk.perr_of hc
  have hk : Pk.packed L = Pk.recs L := by unfold Pk.packed; rw [if_pos hp]
  go_enter Tryd.func22, Tryd.ntmps22
  go_wp2_with fail
  refine (pack_any _ _ _ L h (Nat.le_refl _) (by omega) hu).mono ?_
  rintro e w1 ⟨u, rfl, hown, hb⟩
  rw [hp]
  rw [hk] at hown
  have hs : Bs w1 w1.heap.size u (Pk.recs L) := Bs.of_own hown
  clear hown hp hk
  go_wp2_with fail
  refine (seal_any _ _ _ _ (hG.ext hb) hs (Nat.le_refl _) hl).mono ?_
  rintro e w2 ⟨u2, rfl, hown2, hb2⟩
  have hs2 : Bs w2 w2.heap.size u2 (Crc.sealed (Pk.recs L)) := Bs.of_own (by rw [Crc.length_sealed _ hl]; exact hown2)
  go_wp2
  go_ret2
  exact ⟨_, rfl, hs2, hb.trans (hb2.mono hb.size)⟩
end Go.Proofs.YtmcgadhahhfflaaDoor
