/-
  The walks of the helpers of the statements of layer 9: few and awake. By an AI agent.
-/
import Derived.Test.YtkgegjifnegknaaTitleX
namespace Go.Proofs.Ytkgegjifnegknaa
open Go.RowKit

set_option maxHeartbeats 400000 in
theorem few_any (l : List UInt8) (w : World) :
    Calls Try.prog 10 #[.string ⟨l.toArray⟩] w fun e w' => e = .returned (.string ⟨(l.take 200).toArray⟩) ∧ w = w' := by
  have hsz := ba_size l
  have hx := ba_take l 200
  generalize hs : (⟨l.toArray⟩ : ByteArray) = s at *
  by_cases h : 200 < s.size
  · have h1 : (200 : Int) < s.size := by omega
    have h2 : (200 : Int) ≤ s.size := by omega
    have HX := Lib.hid hx
    clear hs hsz hx
    go_enter Try.func10, Try.ntmps10
    go_wp2
    go_ret
    exact ⟨by rw [← HX.out]; rfl, rfl⟩
  · have h1 : ¬ (200 : Int) < s.size := by omega
    have HX := Lib.hid (show s = ⟨(l.take 200).toArray⟩ by rw [← hs, List.take_of_length_le (by omega)])
    clear hs hsz hx
    go_enter Try.func10, Try.ntmps10
    go_wp2
    go_ret
    exact ⟨by rw [← HX.out]; rfl, rfl⟩

set_option maxHeartbeats 1000000 in
theorem awakeT_any (w : World) :
    Calls Try.prog 15 #[] w fun e w' => e = .returned (.bool true) ∧ Below w.heap.size w w' := by
  go_enter Try.func15, Try.ntmps15
  go_wp2_with fail
  refine (count_any [97, 255, 195, 169] _ (by simp)).mono ?_
  rintro e w1 ⟨rfl, b1⟩
  rw [show Tl.cntR [97, 255, 195, 169] = 2 by decide +kernel, show Tl.cntO [97, 255, 195, 169] = 1 by decide +kernel]
  go_wp2_with fail
  refine (is_any [195, 169, 47] _ (by simp)).mono ?_
  rintro e w2 ⟨rfl, b2⟩
  have c2 := b1.trans (b2.mono b1.size)
  rw [show Tl.isN [195, 169, 47] = false by decide +kernel]
  clear b1 b2
  go_wp2_with fail
  refine (is_any [195, 169] _ (by simp)).mono ?_
  rintro e w3 ⟨rfl, b3⟩
  have c3 := c2.trans (b3.mono c2.size)
  rw [show Tl.isN [195, 169] = true by decide +kernel]
  clear c2 b3
  go_wp2_with fail
  refine (is_any [46, 46] _ (by simp)).mono ?_
  rintro e w4 ⟨rfl, b4⟩
  have c4 := c3.trans (b4.mono c3.size)
  rw [show Tl.isN [46, 46] = false by decide +kernel]
  clear c3 b4
  go_wp2_with fail
  refine (fit_any [97, 47, 98] _ (by simp)).mono ?_
  rintro e w5 ⟨rfl, b5⟩
  have c5 := c4.trans (b5.mono c4.size)
  rw [show Tl.fit [97, 47, 98] = [97, 98] by decide +kernel]
  clear c4 b5
  go_wp2_with fail
  refine (fit_any [] _ (by simp)).mono ?_
  rintro e w6 ⟨rfl, b6⟩
  have c6 := c5.trans (b6.mono c5.size)
  rw [show Tl.fit [] = [120] by decide +kernel]
  clear c5 b6
  go_wp2
  go_ret
  exact ⟨rfl, c6⟩
end Go.Proofs.Ytkgegjifnegknaa
