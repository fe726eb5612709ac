/-
  The walks of the helpers of the statements of layer 2: few, awake. By an AI agent.
-/
import Derived.Test.YtfedklediafnpaaDoorCrcR
namespace Go.Proofs.YtfedklediafnpaaDoor
open Go.RowKit

set_option maxHeartbeats 400000 in
theorem few_any (w : World) (v : Value) (B : Nat) (l : List UInt8) (h : Bs w B v l) :
    Calls Tryd.prog 8 #[v] w fun e w' => ∃ u, e = .returned u ∧ Bs w B u (l.take 300) ∧ w = w' := by
  obtain ⟨A, c, rfl, hc, hm, hcell⟩ := h.openD
  clear hcell
  by_cases hl : 300 < l.length
  · have hl' : (300 : Int) < l.length := by omega
    have hl2 : (300 : Int) ≤ c := by omega
    have hl3 : (300 : Nat) ≤ c := by omega
    have hh := h.head (k := 300) (by omega)
    clear h
    go_enter Tryd.func8, Tryd.ntmps8
    go_wp2
    go_ret
    exact ⟨_, rfl, hh, rfl⟩
  · have hl' : ¬ (300 : Int) < l.length := by omega
    go_enter Tryd.func8, Tryd.ntmps8
    go_wp2
    go_ret
    exact ⟨_, rfl, by rw [List.take_of_length_le (by omega)]; exact h, rfl⟩

set_option maxHeartbeats 400000 in
theorem awake_any (w : World) (hG : Halves w) :
    Calls Tryd.prog 13 #[] w fun e w' => e = .returned (.bool true) ∧ Below w.heap.size w w' := by
  have kc := fun (w : World) (C : Array Value) (n c : Nat) => Lib.run_convert_bytes_const (P := Tryd.prog) w 23 5 C n c Tryd.underlying23 Tryd.underlying5
  have hmk := mk128
  go_enter Tryd.func13, Tryd.ntmps13
  go_wp2_with fail
  have hb1 : Below w.heap.size w (w.alloc (.cells #[.int .u8 49, .int .u8 50, .int .u8 51, .int .u8 52, .int .u8 53, .int .u8 54, .int .u8 55, .int .u8 56, .int .u8 57] 5 (9, 10))) := (Below.refl _ _).alloc (Nat.le_refl _) _
  have hs1 : Bs (w.alloc (.cells #[.int .u8 49, .int .u8 50, .int .u8 51, .int .u8 52, .int .u8 53, .int .u8 54, .int .u8 55, .int .u8 56, .int .u8 57] 5 (9, 10))) _ (.slice (some ⟨w.heap.size, 0, none⟩) 9 9) [49, 50, 51, 52, 53, 54, 55, 56, 57] := Bs.at_block (heap_alloc_new w _) _ rfl rfl (by omega) (by simp [maxLen])
  have hz1 : (w.alloc (.cells #[.int .u8 49, .int .u8 50, .int .u8 51, .int .u8 52, .int .u8 53, .int .u8 54, .int .u8 55, .int .u8 56, .int .u8 57] 5 (9, 10))).heap.size = w.heap.size + 1 := by simp
  generalize w.alloc (.cells #[.int .u8 49, .int .u8 50, .int .u8 51, .int .u8 52, .int .u8 53, .int .u8 54, .int .u8 55, .int .u8 56, .int .u8 57] 5 (9, 10)) = W1 at *
  have hG1 := hG.ext hb1
  refine (sum_any _ _ _ [[49, 50, 51, 52, 53, 54, 55, 56, 57]] (hG1.alloc _) (Bss.lit1' _ (hs1.more (by omega)) hz1.symm)).mono ?_
  rintro e w' ⟨rfl, rfl⟩
  rw [show Crc.sum [[49, 50, 51, 52, 53, 54, 55, 56, 57]].flatten = 3808858755 by decide +kernel]
  have hb2 := hb1.alloc hb1.size (.cells #[.slice (some ⟨w.heap.size, 0, none⟩) 9 9] 23)
  have hG2 := hG1.alloc (.cells #[.slice (some ⟨w.heap.size, 0, none⟩) 9 9] 23)
  generalize W1.alloc (.cells #[.slice (some ⟨w.heap.size, 0, none⟩) 9 9] 23) = W2 at *
  clear hs1 hz1 hb1 hG1
  go_wp2_with fail
  refine (sum_any _ _ 0 [] hG2 (Bss.nil_ _ _)).mono ?_
  rintro e w' ⟨rfl, rfl⟩
  rw [show Crc.sum ([] : List (List UInt8)).flatten = 0 by decide +kernel]
  go_wp2_with fail
  refine (half_any _ 1 hG2).mono ?_
  rintro e w' ⟨rfl, rfl⟩
  rw [show halfI 1 = 274646895 by decide +kernel]
  go_wp2_with fail
  have hb3 := hb2.alloc hb2.size (.cells Z128 5)
  refine (held_any _ _ _ (Crc.pad 128 []) (hG2.alloc _) (Bs.at_block (n := 128) (c := 128) (heap_alloc_new W2 _) _ Z128_list rfl (Nat.le_refl _) (by simp [maxLen])) (by simp)).mono ?_
  rintro e w' ⟨rfl, hb4⟩
  rw [show Crc.held (Crc.pad 128 []) = false by decide +kernel]
  go_wp2
  go_ret
  exact ⟨rfl, hb3.trans (hb4.mono hb3.size)⟩
end Go.Proofs.YtfedklediafnpaaDoor
