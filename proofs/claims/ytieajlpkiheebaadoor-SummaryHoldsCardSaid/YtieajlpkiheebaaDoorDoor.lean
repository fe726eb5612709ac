/-
  What all cards of this seat share: the table of halves out of the row's list; a world that holds it, for the witness. By an AI agent.
-/
import Derived.Test.YtieajlpkiheebaaDoorCards
import Derived.Test.YtieajlpkiheebaaDoorTie
import Derived.Test.YtieajlpkiheebaaDoorCrcW
import Derived.Deep.DeepHandedRow
import Derived.Lib.LaidTab
namespace Go.Proofs.YtieajlpkiheebaaDoor
open Go.ChangeShapes Go.WideShapes Go.ChangeAt Go.RowKit

theorem own : ownKnob Tryd.prog.godebug = none := by kernel_rfl
theorem laidOut : laidOutB Tryd.prog = true := by kernel_rfl
theorem gTab : Tryd.prog.globalNamed "haymow/crc.halves" = some 0 := by kernel_rfl
theorem gTabType : (Tryd.prog.globals[0]?).map (·.type) = some 82 := by kernel_rfl
theorem cellsTab : Tryd.prog.cellsOf 82 = 16 := by kernel_rfl
theorem cellsU32 : Tryd.prog.cellsOf 49 = 1 := by kernel_rfl
theorem cellsU8 : Tryd.prog.cellsOf 5 = 1 := by kernel_rfl

/-- What a row's list gives: the table's cells. -/
theorem halves_of {W : World} (h : laidMetH Tryd.prog [("haymow/crc.halves", Rows.laid_haymow_crc_halves)] W) : Halves W := by
  have ht : Lib.TabIs Tryd.prog W "haymow/crc.halves" .u32 [0, 274646895, 549293790, 820201905, 1098587580, 1361435347, 1640403810, 1905808397, 2197175160, 2460548119, 2722870694, 2987750089, 3280807620, 3553878443, 3811616794, 4084100981] :=
    Lib.tabIs_of_head (rest := []) gTab gTabType Tryd.underlying82 Tryd.underlying49 cellsU32 cellsTab h
  intro k hk
  have hc := ht.cell gTab k hk
  rw [hc]
  have : ∀ k : Fin 16, [(0 : Int), 274646895, 549293790, 820201905, 1098587580, 1361435347, 1640403810, 1905808397, 2197175160, 2460548119, 2722870694, 2987750089, 3280807620, 3553878443, 3811616794, 4084100981].getD k 0 = (Crc.half k : Nat) := by decide
  rw [this ⟨k, hk⟩]

/-- A world for the witness: the settled one, the table holding what its initialiser lays. -/
noncomputable def laidWorld (os : Os) : World :=
  { World.holding Tryd.prog os ⟨#[], #[], []⟩ with heap := (World.holding Tryd.prog os ⟨#[], #[], []⟩).heap.modify 0 fun
      | .cells _ t frozen => .cells #[.int .u32 0, .int .u32 274646895, .int .u32 549293790, .int .u32 820201905, .int .u32 1098587580, .int .u32 1361435347, .int .u32 1640403810, .int .u32 1905808397, .int .u32 2197175160, .int .u32 2460548119, .int .u32 2722870694, .int .u32 2987750089, .int .u32 3280807620, .int .u32 3553878443, .int .u32 3811616794, .int .u32 4084100981] t frozen
      | o => o }
end Go.Proofs.YtieajlpkiheebaaDoor
