/-
  Pointers that came in as arguments. By an AI agent.
-/
import Derived.Test.YtmabdbleakolbaaDoorInodeW
import Derived.Deep.SlicePairs
import Derived.Lib.SmallJoins
namespace Go.Proofs.YtmabdbleakolbaaDoor
open Go.ChangeShapes Go.WideShapes Go.ChangeAt Go.RowKit
section
variable {H : Type} {enc : TypeId × Value → H} {P : Program} {W : World} {base b0 : Nat} {r : Reach}
theorem ptrs_of_cs {t e : TypeId} {f0 f1 : Field} {fuel : Nat} {cs : List Value} {x : DataW H × List MemPlace} (ht : P.underlying t = some (.slice e)) (he : P.underlying e = some (.struct #[f0, f1]))
    (ce : P.cellsOf e = 2) (o0 : f0.offset = 0) (o1 : f1.offset = 1) (c0 : P.cellsOf f0.type = 1) (c1 : P.cellsOf f1.type = 1) (u0 : P.underlying f0.type = some (.int .i64)) (u1 : P.underlying f1.type = some (.int .u32))
    (h : DataW.trod enc P W base (fun _ => true) true fuel t cs = some x) : ∃ (v : Value) (l : List (Int × Nat)), cs = [v] ∧ Ptrs W W.heap.size v l ∧ ∀ y ∈ l, y.2 < 4294967296 := by
  rcases Go.Deep.open_slice_pairs ht he ce o0 o1 c0 c1 h with ⟨hcs, _⟩ | ⟨a, len, cap, m, n, V0, V1, D0, D1, P0, P1, hcs, _, hl, hm, hmm, _, hrow⟩
  · exact ⟨_, [], hcs, Rds.nil_ _ _ _, by simp⟩
  · subst hcs
    simp only [if_true] at hmm
    obtain rfl : cap = m := hmm.symm
    have each : ∀ i, i < cap → ∃ y : Int × Nat, V0 i = .int .i64 y.1 ∧ V1 i = .int .u32 (y.2 : Int) ∧ y.2 < 4294967296 := by
      intro i hi
      obtain ⟨_, _, h0, h1⟩ := hrow i hi
      obtain ⟨p, hp, _, _⟩ := DataW.trod_int u0 h0
      obtain ⟨q, hq, _, hqw⟩ := DataW.trod_int u1 h1
      have hqq := wf_u32 hqw
      simp only [List.cons.injEq, and_true] at hp hq
      refine ⟨(p, q.toNat), hp, ?_, ?_⟩
      · rw [hq]; congr 1; show q = ((q.toNat : Nat) : Int); omega
      · show q.toNat < _; omega
    have key : ∀ k, k ≤ len → ∃ l : List (Int × Nat), l.length = k ∧ (∀ y ∈ l, y.2 < 4294967296) ∧ (l.flatMap fun x => [Value.int .i64 x.1, Value.int .u32 (x.2 : Int)]) = (List.range k).flatMap fun i => [V0 i, V1 i] := by
      intro k
      induction k with
      | zero => exact fun _ => ⟨[], rfl, by simp, rfl⟩
      | succ k ih =>
        intro hk
        obtain ⟨l, h1, h2, h3⟩ := ih (by omega)
        obtain ⟨y, hy0, hy1, hy2⟩ := each k (by omega)
        refine ⟨l ++ [y], by simp [h1], fun z hz => ?_, ?_⟩
        · rcases List.mem_append.1 hz with hz | hz
          · exact h2 z hz
          · rw [List.mem_singleton.1 hz]; exact hy2
        · rw [List.flatMap_append, h3, List.range_succ, List.flatMap_append, List.flatMap_singleton, List.flatMap_singleton, hy0, hy1]
    obtain ⟨l, hll, hlt, hfl⟩ := key len (Nat.le_refl _)
    refine ⟨_, l, rfl, ⟨some a, cap, by rw [hll], by rw [hll]; exact hl, hm, pcells_len l, fun hn => ?_⟩, hlt⟩
    rw [hll] at hn
    obtain ⟨b, off, spot⟩ := a
    have h0 := (hrow 0 (by omega)).1
    obtain rfl : spot = none := by simpa [Addr.add] using addr_none h0
    refine ⟨b, off, rfl, World.block_lt_of_cell? W _ (by simpa [Addr.add] using h0), fun j u hu => ?_⟩
    unfold pcells at hu
    rw [hfl] at hu
    have pr : ∀ k, ∀ j u, ((List.range k).flatMap fun i => [V0 i, V1 i])[j]? = some u → j < k * 2 ∧ ((j % 2 = 0 ∧ u = V0 (j / 2)) ∨ (j % 2 = 1 ∧ u = V1 (j / 2))) := by
      intro k
      induction k with
      | zero => intro j u h; simp at h
      | succ k ih =>
        intro j u h
        have hlen : ((List.range k).flatMap fun i => [V0 i, V1 i]).length = k * 2 := by
          clear ih h
          induction k with
          | zero => rfl
          | succ k ih => rw [List.range_succ, List.flatMap_append, List.length_append, ih]; simp; omega
        rw [List.range_succ, List.flatMap_append] at h
        by_cases hj : j < k * 2
        · rw [List.getElem?_append_left (by omega)] at h
          obtain ⟨h1, h2⟩ := ih j u h
          exact ⟨by omega, h2⟩
        · rw [List.getElem?_append_right (by omega), hlen, List.flatMap_singleton] at h
          match hq : j - k * 2, h with
          | 0, h =>
            have hj' : j = k * 2 := by omega
            injection h with h
            exact ⟨by omega, .inl ⟨by omega, by rw [← h]; congr 1; omega⟩⟩
          | 1, h =>
            injection h with h
            exact ⟨by omega, .inr ⟨by omega, by rw [← h]; congr 1; omega⟩⟩
    obtain ⟨hj, hjj⟩ := pr len j u hu
    obtain ⟨hc0, hc1, _, _⟩ := hrow (j / 2) (by omega)
    rw [add_plain] at hc0 hc1
    rcases hjj with ⟨hj2, rfl⟩ | ⟨hj2, rfl⟩
    · rw [show j = j / 2 * 2 by omega]
      rw [show j / 2 * 2 / 2 = j / 2 by omega]
      exact hc0
    · rw [show off + j = off + (j / 2 * 2 + 1) by omega]
      exact hc1
theorem ptrs_of_trod {t e : TypeId} {f0 f1 : Field} (ht : P.underlying t = some (.slice e)) (he : P.underlying e = some (.struct #[f0, f1]))
    (ce : P.cellsOf e = 2) (o0 : f0.offset = 0) (o1 : f1.offset = 1) (c0 : P.cellsOf f0.type = 1) (c1 : P.cellsOf f1.type = 1) (u0 : P.underlying f0.type = some (.int .i64)) (u1 : P.underlying f1.type = some (.int .u32))
    {v : Value} {d : DataW H} {ps : List MemPlace} (hv : Value.okWide P W r b0 t v) (h : DataW.Trod enc P W base (fun _ => true) true t v d ps) :
    ∃ l : List (Int × Nat), Ptrs W W.heap.size v l ∧ ∀ y ∈ l, y.2 < 4294967296 := by
  obtain ⟨a0, len0, cap0, rfl⟩ := okWide_slice ht hv
  obtain ⟨fuel, hf⟩ := h
  obtain ⟨v, l, e, h1, h2⟩ := ptrs_of_cs ht he ce o0 o1 c0 c1 u0 u1 hf
  obtain rfl : Value.slice a0 len0 cap0 = v := by simpa [Value.cells] using e
  exact ⟨l, h1, h2⟩
end
end Go.Proofs.YtmabdbleakolbaaDoor
