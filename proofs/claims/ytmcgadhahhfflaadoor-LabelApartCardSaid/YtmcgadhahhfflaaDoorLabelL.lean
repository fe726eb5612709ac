/-
  The walks of the helpers of the statements of layer 5: few and awake. By an AI agent.
-/
import Derived.Test.YtmcgadhahhfflaaDoorLabelR
import Derived.Test.YtmcgadhahhfflaaDoorDoor
namespace Go.Proofs.YtmcgadhahhfflaaDoor
open Go.RowKit

set_option maxHeartbeats 400000 in
theorem few_any (w : World) (v : Value) (B : Nat) (l : List UInt8) (h : Bs w B v l) :
    Calls Tryd.prog 16 #[v] w fun e w' => ∃ u, e = .returned u ∧ Bs w B u (l.take 200) ∧ w = w' := by
  obtain ⟨A, c, rfl, hc, hm, _⟩ := h.openD
  by_cases hl : 200 < l.length
  · have hl' : (200 : Int) < l.length := by omega
    have hl2 : (200 : Int) ≤ c := by omega
    have hl3 : (200 : Nat) ≤ c := by omega
    have hh := h.head (k := 200) (by omega)
    clear h
    go_enter Tryd.func16, Tryd.ntmps16
    go_wp2
    go_ret
    exact ⟨_, rfl, hh, rfl⟩
  · have hl' : ¬ (200 : Int) < l.length := by omega
    go_enter Tryd.func16, Tryd.ntmps16
    go_wp2
    go_ret
    exact ⟨_, rfl, by rw [List.take_of_length_le (by omega)]; exact h, rfl⟩

theorem sup_len (d l v s : Nat) : (Lb.supE d l v s).length = 128 := Crc.length_sealed _ (by rw [Lb.supE_len]; omega)
theorem lab_len (v g : Nat) : (Lb.labE v g).length = 128 := Crc.length_sealed _ (by rw [Lb.labE_len]; omega)
theorem zeros_bs (w : World) : Bs (w.alloc (.cells Z128 5)) (w.heap.size + 1) (.slice (some ⟨w.heap.size, 0, none⟩) 128 128) (List.replicate 128 0) := by
  refine Bs.lit w 5 Z128 (List.replicate 128 0) 128 ?_ (by simp) (by simp [maxLen])
  rw [Z128_list]
  rfl

set_option maxRecDepth 100000 in
set_option maxHeartbeats 2000000 in
theorem awake_any (w : World) (hH : Halves w) :
    Calls Tryd.prog 9 #[] w fun e w' => e = .returned (.bool true) ∧ Below w.heap.size w w' := by
  have hmk := mk128
  go_enter Tryd.func9, Tryd.ntmps9
  go_wp2_with fail
  refine (super_yes 10 2 2 3 _ hH (by decide)).mono ?_
  rintro e w1 ⟨u, rfl, hs, b1⟩
  obtain ⟨A, c, rfl, hc, hm, _⟩ := hs.openD
  have hsl := sup_len 10 2 2 3
  rw [hsl] at hc
  rw [hsl]
  have hh := hs
  rw [hsl] at hh
  have ht : (Lb.supE 10 2 2 3).take 12 = [104, 97, 121, 109, 0, 10, 0, 2, 2, 0, 3, 0] := by decide +kernel
  have hhd : Bs w1 w1.heap.size (.slice A 12 c) [104, 97, 121, 109, 0, 10, 0, 2, 2, 0, 3, 0] := by rw [← ht]; exact hs.head (by rw [hsl]; omega)
  clear hs hh ht hsl
  go_wp2_with fail
  have hz := zeros_bs w1
  have b2 := b1.alloc b1.size (.cells Z128 5)
  have h2 := hhd.ext (Nat.le_refl _) ((Below.refl w1.heap.size w1).alloc (Nat.le_refl _) (.cells Z128 5))
  have z1 : (w1.alloc (.cells Z128 5)).heap.size = w1.heap.size + 1 := by simp
  generalize w1.alloc (.cells Z128 5) = w2 at *
  refine (readSuper_any w2 _ (List.replicate 128 0) (hH.ext b2) (hz.more (by omega))).mono ?_
  rintro e w3 ⟨a, b, c', d, rfl, _, b3⟩
  rw [show Lb.rsErr (List.replicate 128 0) = 5 by decide +kernel]
  have c3 := b2.trans (b3.mono b2.size)
  have h3 := h2.ext (by omega) b3
  have s3 := b3.size
  clear b2 b3 h2 hz hhd hmk
  go_wp2_with fail
  have b4 := (Below.refl w3.heap.size w3).alloc (Nat.le_refl _) (.cells #[.int .i64 a, .int .i64 b, .int .i64 c', .int .i64 d] 23)
  have h4 := h3.ext (by have := c3.size; omega) b4
  have c4 := c3.alloc c3.size (.cells #[.int .i64 a, .int .i64 b, .int .i64 c', .int .i64 d] 23)
  have s4 := b4.size
  generalize w3.alloc (.cells #[.int .i64 a, .int .i64 b, .int .i64 c', .int .i64 d] 23) = w4 at *
  refine (label_no 8 0 w4 (by decide)).mono ?_
  rintro e w5 ⟨rfl, b5⟩
  have c5 := c4.trans (b5.mono c4.size)
  have h5 := h4.ext (by have := c4.size; omega) b5
  have hst := run_string_of (P := Tryd.prog) h5 28 9 5 Tryd.underlying28 Tryd.underlying5 Tryd.underlying9
  have g1 : (12 : Int) ≤ c := by omega
  have g2 : 12 ≤ c := by omega
  clear h3 h4 h5 b4 c4 c3
  go_wp2
  go_ret
  exact ⟨rfl, c5⟩
end Go.Proofs.YtmcgadhahhfflaaDoor
