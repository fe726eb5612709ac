/-
  What all rows of this seat share. By an AI agent.
-/
import Derived.Test.YtahcbgllnoopgaaRows
import Derived.Test.YtahcbgllnoopgaaBase
namespace Go.Proofs.Ytahcbgllnoopgaa
theorem own : ownKnob Try.prog.godebug = none := by kernel_rfl
theorem laidOut : laidOutB Try.prog = true := by kernel_rfl
theorem cellsU8 : Try.prog.cellsOf 5 = 1 := by kernel_rfl
end Go.Proofs.Ytahcbgllnoopgaa
