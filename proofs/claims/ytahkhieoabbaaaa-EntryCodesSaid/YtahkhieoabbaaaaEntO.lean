/-
  Arguments of the laws of layer 10. By an AI agent.
-/
import Derived.Test.YtahkhieoabbaaaaEntG
import Derived.Test.YtahkhieoabbaaaaArgs
import Derived.Test.YtahkhieoabbaaaaLeaf
import Derived.Test.YtahkhieoabbaaaaPlain
namespace Go.Proofs.Ytahkhieoabbaaaa
open Go.ChangeShapes Go.WideShapes Go.ChangeAt Go.RowKit
open Et (E)

section
variable {H : Type} {enc : TypeId × Value → H} {W : World} {base : Nat} {r : Reach} {b0 : Nat}
theorem ety_of_cs {held : Bool} {spare : Nat → Bool} {fuel : Nat} {cs : List Value} {x : DataW H × List MemPlace} (h : DataW.trod enc Try.prog W base spare held fuel 28 cs = some x) (hl : cs.length = 3) : ∃ y : E, cs = ecell y := by
  obtain ⟨s, hs⟩ := leaf_string (d := 1) (j := 0) (ty := 9) h (by decide +kernel) Try.underlying9
  obtain ⟨i, hi, _⟩ := leaf_int (d := 1) (j := 1) (k := .i64) (ty := 3) h (by decide +kernel) Try.underlying3
  obtain ⟨t, ht, _⟩ := leaf_int (d := 1) (j := 2) (k := .i64) (ty := 3) h (by decide +kernel) Try.underlying3
  refine ⟨⟨s.data.toList, i, t⟩, ?_⟩
  match cs, hl with
  | [a, b, c], _ =>
    simp only [List.getElem?_cons_zero, List.getElem?_cons_succ, Option.some.injEq] at hs hi ht
    subst hs hi ht
    cases s
    simp [ecell]
theorem entries_of_trod {v : Value} {d : DataW H} {ps : List MemPlace} (hv : Value.okWide Try.prog W r b0 22 v) (h : DataW.Trod enc Try.prog W base (fun _ => true) true 22 v d ps) :
    ∃ l : List E, Ents W W.heap.size v l := by
  obtain ⟨a0, len0, cap0, rfl⟩ := okWide_slice Try.underlying22 hv
  obtain ⟨n, h⟩ := h
  have hce : (Value.slice a0 len0 cap0).cells.toList = [.slice a0 len0 cap0] := rfl
  rw [hce] at h
  obtain ⟨l, h1, _⟩ := rds_of_cs ecell (fun _ => True) Try.underlying22 (k := 3) (by kernel_rfl) (by decide) (fun _ => rfl) (fun n cs y h hl => by
    obtain ⟨z, hz⟩ := ety_of_cs h hl
    exact ⟨z, hz, trivial⟩) h
  exact ⟨l, h1⟩
theorem entry_of_trod {v : Value} {d : DataW H} {ps : List MemPlace} (hv : Value.okWide Try.prog W r b0 28 v) (h : DataW.Trod enc Try.prog W base (fun _ => true) true 28 v d ps) :
    ∃ y : E, v = eagg y := by
  obtain ⟨cs, rfl, hsz⟩ := okWide_struct Try.underlying28 hv
  obtain ⟨fuel, hf⟩ := h
  have hce : (Value.agg cs).cells.toList = cs.toList := rfl
  rw [hce] at hf
  obtain ⟨y, hy⟩ := ety_of_cs hf (by rw [Array.length_toList, hsz]; kernel_rfl)
  refine ⟨y, ?_⟩
  show Value.agg cs = .agg (ecell y).toArray
  rw [← hy]
end
end Go.Proofs.Ytahkhieoabbaaaa
