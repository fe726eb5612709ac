/-
  An operation of a drawn region whose guard has not run itself. No program. By an AI agent.
-/
import Derived.Test.YtahcbgllnoopgaaRegion
namespace Go.Proofs.Ytahcbgllnoopgaa
open Go.RowKit

/-- Its guard has yielded nothing. -/
theorem wpOp_undef {P : Program} {ops : Array Oper} {Q : Exit → Act → World → Prop} {i j d : Nat} {b : Bool} {o : Oper} {K : Act → World → Prop} {a : Act} {w : World} (ho : ops[i]? = some o) (hg : o.guard = some (j, b)) (hd : (ops[j]?).bind (·.dst) = some d) (hv : a.tmps.getD d undef = undef) (h : K (a.put o.dst undef) w) : wpOp P ops Q i K a w := by
  have hy : yielded ops a.tmps j = none := by
    rw [Array.getD_eq_getD_getElem?] at hv
    unfold yielded
    rw [hd]
    cases hq : a.tmps[d]? with
    | none => simp [hq]
    | some x =>
      rw [hq] at hv
      have hx : x = undef := hv
      subst hx
      simp [hq, undef]
  unfold wpOp
  rw [ho]
  have : ((none : Option Bool) == some b) = false := rfl
  simp only [Region.wanted, hg, hy, this]
  exact h
end Go.Proofs.Ytahcbgllnoopgaa
