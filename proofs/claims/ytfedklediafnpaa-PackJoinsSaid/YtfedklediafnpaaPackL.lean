/-
  The walks of the helpers of the statements of layer 1: same, few, awake. By an AI agent.
-/
import Derived.Test.YtfedklediafnpaaPackR
namespace Go.Proofs.Ytfedklediafnpaa
open Go.RowKit

def SameTo (l m : List Nat) (k : Nat) : Prop := ∀ j, j < k → l.getD j 0 = m.getD j 0
theorem SameTo.succ {l m : List Nat} {k : Nat} (h : SameTo l m k) (e : l.getD k 0 = m.getD k 0) : SameTo l m (k + 1) := by
  intro j hj
  by_cases hk : j = k
  · rw [hk]; exact e
  · exact h j (by omega)
theorem SameTo.all {l m : List Nat} (hl : l.length = m.length) (h : SameTo l m l.length) : (l == m) = true := by
  rw [beq_iff_eq]
  apply List.ext_getElem? fun j => ?_
  by_cases hj : j < l.length
  · have := h j hj
    rw [List.getD_eq_getElem?_getD, List.getD_eq_getElem?_getD, List.getElem?_eq_getElem hj, List.getElem?_eq_getElem (by omega)] at this
    rw [List.getElem?_eq_getElem hj, List.getElem?_eq_getElem (by omega)]
    simpa using this
  · rw [List.getElem?_eq_none (by omega), List.getElem?_eq_none (by omega)]
theorem SameTo.no {l m : List Nat} {k : Nat} (e : l.getD k 0 ≠ m.getD k 0) : (l == m) = false := by
  rw [beq_eq_false_iff_ne]
  rintro rfl
  exact e rfl

set_option maxHeartbeats 400000 in
theorem same_any (w : World) (v u : Value) (B : Nat) (l m : List Nat) (h : Us w B v l) (h2 : Us w B u m) :
    Calls Try.prog 10 #[v, u] w fun e w' => e = .returned (.bool (l == m)) ∧ Below w.heap.size w w' := by
  obtain ⟨A, c, rfl, hc, hm, hcell⟩ := h.openD
  obtain ⟨A2, c2, rfl, hc2, hm2, hcell2⟩ := h2.openD
  clear h h2
  by_cases hl : l.length = m.length
  · have hl' : ((l.length : Int) != m.length) = false := by rw [bne_eq_false_iff_eq]; omega
    have HL := Lib.hid hl
    have hl1 : l.length ≤ m.length := by omega
    have hl2 : m.length ≤ l.length := by omega
    clear hl
    go_enter Try.func10, Try.ntmps10
    go_wp2
    go_loopw [5] (fun i wr => ∃ k n : Nat, k ≤ l.length ∧ i = .int .i64 k ∧ wr = w.drewN n ∧ SameTo l m k) (fun i _ => l.length - (intOf i).toNat)
    case atStart => exact ⟨0, 0, Nat.zero_le _, rfl, rfl, fun j hj => absurd hj (by omega)⟩
    case round =>
      obtain ⟨k, n, hk, rfl, rfl, hto⟩ := hrel
      by_cases hlt : k < l.length
      · obtain ⟨b, off, rfl, hb, hx⟩ := hcell k hlt
        obtain ⟨b2, off2, rfl, hb2, hx2⟩ := hcell2 k (by omega)
        have HSU := Lib.hid (fun h => SameTo.succ (l := l) (m := m) (k := k) hto h)
        have HNO := Lib.hid (fun h => SameTo.no (l := l) (m := m) (k := k) h)
        generalize l.getD k 0 = x at *
        generalize m.getD k 0 = y at *
        clear hcell hcell2 hto
        have i0 : (0 : Int) ≤ k := by omega
        have i1 : (k : Int) < l.length := by omega
        have i2 : (k : Int) < m.length := by omega
        have i3 : k < m.length := by omega
        by_cases hxy : x = y
        · have hxy' : ((x : Int) != y) = false := by rw [bne_eq_false_iff_eq]; omega
          have HXY := Lib.hid hxy
          clear hxy
          go_wp2
          go_quiet (fail)
          go_wp2
          go_roundw
          case rel => exact ⟨k + 1, n + nq, by omega, by go_num, by simp, HSU.out HXY.out⟩
          case measure => simp [intOf]; omega
        · have hxy' : ((x : Int) != y) = true := by rw [bne_iff_ne]; omega
          go_wp2
          go_quiet (fail)
          go_wp2
          go_ret
          exact ⟨by rw [HNO.out hxy]; rfl, below_drewN (below_drewN (Below.refl _ _) _) _⟩
      · obtain rfl : k = l.length := by omega
        have H := Lib.hid (SameTo.all HL.out hto)
        clear hto hcell hcell2
        go_wp2
        go_ret
        exact ⟨by rw [H.out]; rfl, below_drewN (Below.refl _ _) _⟩
  · have hl' : ((l.length : Int) != m.length) = true := by rw [bne_iff_ne]; omega
    have H := Lib.hid (show (l == m) = false by rw [beq_eq_false_iff_ne]; rintro rfl; exact hl rfl)
    clear hl hcell hcell2
    go_enter Try.func10, Try.ntmps10
    go_wp2
    go_ret
    exact ⟨by rw [H.out]; rfl, Below.refl _ _⟩

set_option maxHeartbeats 400000 in
theorem fewN_any (w : World) (v : Value) (B : Nat) (l : List (Int × Nat)) (h : Nums w B v l) :
    Calls Try.prog 12 #[v] w fun e w' => ∃ u, e = .returned u ∧ Nums w B u (l.take 60) ∧ w = w' := by
  obtain ⟨A, c, rfl, hc, hm, hcell⟩ := h.open_
  clear hcell
  by_cases hl : 60 < l.length
  · have hl' : (60 : Int) < l.length := by omega
    have hl2 : (60 : Int) ≤ c := by omega
    have hl3 : (60 : Nat) ≤ c := by omega
    have hh : Nums w B (.slice A 60 c) (l.take 60) := by
      have := Rds.head h (k := 60) (by omega)
      unfold Nums
      rw [show (l.take 60).length = 60 by rw [List.length_take]; omega]
      have e : ((l.take 60).flatMap fun x => [Value.int .i64 x.1, Value.int .u64 (x.2 : Int)]) = (l.flatMap fun x => [Value.int .i64 x.1, Value.int .u64 (x.2 : Int)]).take (60 * 2) := by
        conv => rhs; rw [← List.take_append_drop 60 l, List.flatMap_append]
        rw [List.take_left' (by rw [numsCells, List.length_take]; omega)]
      rw [e]; exact this
    clear h
    go_enter Try.func12, Try.ntmps12
    go_wp2
    go_ret
    exact ⟨_, rfl, hh, rfl⟩
  · have hl' : ¬ (60 : Int) < l.length := by omega
    go_enter Try.func12, Try.ntmps12
    go_wp2
    go_ret
    exact ⟨_, rfl, by rw [List.take_of_length_le (by omega)]; exact h, rfl⟩

set_option maxHeartbeats 1000000 in
theorem awakeP_any (w : World) :
    Calls Try.prog 11 #[] w fun e w' => e = .returned (.bool true) ∧ Below w.heap.size w w' := by
  go_enter Try.func11, Try.ntmps11
  go_wp2_with fail
  have b1 := (Below.refl w.heap.size w).alloc (Nat.le_refl _) (.cells #[.int .i64 2, .int .u64 300, .int .i64 1, .int .u64 7] 39)
  refine (pack_any _ _ _ [(2, 300), (1, 7)] (Nums.lit w _ _ _ 2 rfl rfl (by simp [maxLen])) (by simp) (by simp) (by simp)).mono ?_
  rintro e w1 ⟨u1, rfl, hown1, hb1⟩
  have c1 := b1.trans (hb1.mono b1.size)
  rw [show Pk.perr [(2, 300), (1, 7)] = 0 by decide +kernel]
  have hs1 : Bs w1 w1.heap.size u1 (Pk.packed [(2, 300), (1, 7)]) := Bs.of_own hown1
  rw [show Pk.packed [(2, 300), (1, 7)] = [1, 44, 7] by decide +kernel] at hs1
  obtain ⟨A1, d1, rfl, _, _, _⟩ := hs1.open_
  clear hown1 hb1 b1
  go_wp2_with fail
  have hB2 := Bs.lit w1 5 #[.int .u8 1, .int .u8 44, .int .u8 7, .int .u8 9] [1, 44, 7, 9] 4 rfl rfl (by simp [maxLen])
  have b2 := (Below.refl w1.heap.size w1).alloc (Nat.le_refl _) (.cells #[.int .u8 1, .int .u8 44, .int .u8 7, .int .u8 9] 5)
  have z2 : (w1.alloc (.cells #[.int .u8 1, .int .u8 44, .int .u8 7, .int .u8 9] 5)).heap.size = w1.heap.size + 1 := by simp
  generalize w1.alloc (.cells #[.int .u8 1, .int .u8 44, .int .u8 7, .int .u8 9] 5) = w2 at *
  have b3 := (Below.refl w2.heap.size w2).alloc (Nat.le_refl _) (.cells #[.int .i64 2, .int .i64 1] 3)
  refine (unpack_any _ _ _ (w1.heap.size + 1 + 1) [1, 44, 7, 9] [2, 1] (Bs.more (Rds.alloc hB2 (by omega) _) (by omega)) (Is.lit' .i64 w2 _ _ [2, 1] 2 z2.symm rfl rfl (by simp [maxLen])) (by simp [z2]) (by simp)).mono ?_
  rintro e w3 ⟨u2, rfl, hown2, hb2⟩
  have c2 := c1.trans ((b2.trans ((b3.trans (hb2.mono b3.size)).mono b2.size)).mono c1.size)
  have s2 := b2.trans ((b3.trans (hb2.mono b3.size)).mono b2.size)
  rw [show Pk.uerr [1, 44, 7, 9] [2, 1] = 0 by decide +kernel]
  have hs2 : Us w3 w3.heap.size u2 (Pk.unpacked [1, 44, 7, 9] [2, 1]) := Us.of_own hown2
  rw [show Pk.unpacked [1, 44, 7, 9] [2, 1] = [300, 7] by decide +kernel] at hs2
  obtain ⟨A2, d2, rfl, _, _, _⟩ := hs2.openD
  have hs1' := hs1.ext (Nat.le_refl _) s2
  clear hown2 hb2 b2 b3 hB2 z2 c1 hs1
  go_wp2_with fail
  have b4 := (Below.refl w3.heap.size w3).alloc (Nat.le_refl _) (.cells #[.int .i64 1, .int .u64 256] 39)
  refine (pack_any _ _ _ [(1, 256)] (Nums.lit w3 _ _ _ 1 rfl rfl (by simp [maxLen])) (by simp) (by simp) (by simp)).mono ?_
  rintro e w4 ⟨u3, rfl, hown3, hb3⟩
  rw [show Pk.perr [(1, 256)] = 19 by decide +kernel]
  have c4 := c2.trans ((b4.trans (hb3.mono b4.size)).mono c2.size)
  have s4 := b4.trans (hb3.mono b4.size)
  have hs1'' := hs1'.ext s2.size s4
  have hcv := run_string_of (P := Try.prog) hs1'' 22 9 5 Try.underlying22 Try.underlying5 Try.underlying9
  have hs2' := Rds.ext hs2 (Nat.le_refl _) s4
  simp only [List.length_cons, List.length_nil, Nat.zero_add, Nat.reduceAdd] at hcv
  clear hown3 hb3
  go_wp2_with fail
  have b5 := (Below.refl w4.heap.size w4).alloc (Nat.le_refl _) (.cells #[.int .u64 300, .int .u64 7] 37)
  have hlit := (Blk.new w4 37 #[.int .u64 300, .int .u64 7]).rds 0 2 2 1 (by simp) (Nat.le_refl _) (by simp [maxLen])
  refine (same_any _ _ _ (w4.heap.size + 1) [300, 7] [300, 7] (Rds.more (Rds.ext hs2' s4.size b5) (Nat.le_trans s4.size (Nat.le_succ _))) hlit).mono ?_
  rintro e w5 ⟨rfl, hb5⟩
  have c5 := c4.trans ((b5.trans (hb5.mono b5.size)).mono c4.size)
  go_wp2
  go_ret
  exact ⟨rfl, c5⟩
end Go.Proofs.Ytfedklediafnpaa
