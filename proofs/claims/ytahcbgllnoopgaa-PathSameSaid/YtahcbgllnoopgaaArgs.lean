/-
  A slice of structs that came in, as a list: whatever an element's cells spell. No program. By an AI agent.
-/
import Derived.Test.YtahcbgllnoopgaaLeaf
import Derived.Deep.Slices
namespace Go.Proofs.Ytahcbgllnoopgaa
open Go.RowKit Go.ChangeShapes Go.WideShapes Go.ChangeAt

theorem flat_at {T : Type} (dec : T → List Value) {k : Nat} (hd : ∀ z, (dec z).length = k) : ∀ (l : List T) (j : Nat) (u : Value), (l.flatMap dec)[j]? = some u → ∃ (i r : Nat) (z : T), j = i * k + r ∧ r < k ∧ l[i]? = some z ∧ (dec z)[r]? = some u
  | [], j, u, h => by simp at h
  | z :: l, j, u, h => by
    rw [List.flatMap_cons] at h
    by_cases hj : j < k
    · rw [List.getElem?_append_left (by rw [hd]; exact hj)] at h
      exact ⟨0, j, z, by omega, hj, rfl, h⟩
    · rw [List.getElem?_append_right (by rw [hd]; omega), hd] at h
      obtain ⟨i, r, y, h1, h2, h3, h4⟩ := flat_at dec hd l (j - k) u h
      refine ⟨i + 1, r, y, ?_, h2, h3, h4⟩
      rw [Nat.add_mul, Nat.one_mul]; omega
theorem flat_len {T : Type} (dec : T → List Value) {k : Nat} (hd : ∀ z, (dec z).length = k) : ∀ l : List T, (l.flatMap dec).length = l.length * k
  | [] => by simp
  | z :: l => by rw [List.flatMap_cons, List.length_append, hd, flat_len dec hd l, List.length_cons, Nat.add_mul, Nat.one_mul]; omega
theorem build_list {T : Type} (n : Nat) (p : Nat → T → Prop) (h : ∀ i, i < n → ∃ z, p i z) : ∃ l : List T, l.length = n ∧ ∀ i z, l[i]? = some z → p i z := by
  induction n with
  | zero => exact ⟨[], rfl, fun i z hz => by simp at hz⟩
  | succ n ih =>
    obtain ⟨l, h1, h2⟩ := ih fun i hi => h i (by omega)
    obtain ⟨z, hz⟩ := h n (by omega)
    refine ⟨l ++ [z], by simp [h1], fun i y hy => ?_⟩
    by_cases hi : i < l.length
    · rw [List.getElem?_append_left hi] at hy; exact h2 i y hy
    · rw [List.getElem?_append_right (by omega)] at hy
      by_cases h0 : i - l.length = 0
      · rw [h0] at hy
        simp at hy
        subst hy
        rw [show i = n by omega]; exact hz
      · rw [List.getElem?_eq_none (by simp; omega)] at hy; cases hy
section
variable {H : Type} {enc : TypeId × Value → H} {P : Program} {W : World} {base b0 : Nat} {r : Reach}
theorem rds_of_cs {T : Type} (dec : T → List Value) (Good : T → Prop) {t e k fuel : Nat} {v : Value} {x : DataW H × List MemPlace} (ht : P.underlying t = some (.slice e)) (ce : P.cellsOf e = k) (hk : 0 < k) (hd : ∀ z, (dec z).length = k)
    (el : ∀ (n : Nat) (cs : List Value) (y : DataW H × List MemPlace), DataW.trod enc P W base (fun _ => true) true n e cs = some y → cs.length = k → ∃ z, cs = dec z ∧ Good z)
    (h : DataW.trod enc P W base (fun _ => true) true fuel t [v] = some x) : ∃ l : List T, Rds W W.heap.size k v l.length (l.flatMap dec) ∧ ∀ z ∈ l, Good z := by
  rcases Go.Deep.open_slice ht h with ⟨hcs, _⟩ | ⟨a, len, cap, m, n, D, Pl, hcs, hb, hl, hm, hmm, hx, hi⟩
  · simp only [List.cons.injEq, and_true] at hcs
    subst hcs
    exact ⟨[], Rds.nil_ _ _ _, by simp⟩
  · simp only [List.cons.injEq, and_true] at hcs
    subst hcs
    simp only [if_true] at hmm
    subst hmm
    obtain ⟨l, hll, hlp⟩ := build_list len (fun i z => Good z ∧ ∀ j u, (dec z)[j]? = some u → W.cell? ((a.add (i * k)).add j) = some u) (fun i hil => by
      obtain ⟨cs', hc, ht'⟩ := hi i (by omega)
      rw [ce] at hc
      obtain ⟨_, hcl, hat⟩ := World.cells?_some hc
      obtain ⟨z, hz, hg⟩ := el _ _ _ ht' hcl
      refine ⟨z, hg, fun j u hu => ?_⟩
      have hj : j < k := by
        have := (List.getElem?_eq_some_iff.1 hu).1
        rw [hd] at this; exact this
      rw [hat j hj, hz, hu])
    refine ⟨l, ⟨some a, m, by rw [hll], by rw [hll]; exact hl, hm, flat_len dec hd l, fun hn => ?_⟩, fun z hz => ?_⟩
    · obtain ⟨b, off, spot⟩ := a
      have hz0 : ∃ z, l[0]? = some z := ⟨l[0], List.getElem?_eq_getElem hn⟩
      obtain ⟨z, hz⟩ := hz0
      have h0 := (hlp 0 z hz).2 0 ((dec z)[0]'(by rw [hd]; exact hk)) (List.getElem?_eq_getElem _)
      obtain rfl : spot = none := by simpa [Addr.add] using addr_none h0
      refine ⟨b, off, rfl, World.block_lt_of_cell? W _ (by simpa [Addr.add] using h0), fun j u hu => ?_⟩
      obtain ⟨i, q, y, rfl, _, hy, hq⟩ := flat_at dec hd l j u hu
      have := (hlp i y hy).2 q u hq
      rw [add_plain, add_plain] at this
      rw [← Nat.add_assoc]; exact this
    · obtain ⟨i, hi9⟩ := List.mem_iff_getElem?.1 hz
      exact (hlp i z hi9).1
theorem leaf_string {d : Nat} {t : TypeId} {fuel : Nat} {cs : List Value} {x : DataW H × List MemPlace} {spare : Nat → Bool} {held : Bool} (h : DataW.trod enc P W base spare held fuel t cs = some x) {j : Nat} {ty : TypeId} (hp : (j, ty) ∈ leavesAt P d 0 t) (hu : P.underlying ty = some .string) :
    ∃ s, cs[j]? = some (.string s) := by
  obtain ⟨_, n, y, cs', ht, hc⟩ := leaf_of d t fuel cs x 0 h _ hp
  obtain ⟨s, hz, _⟩ := DataW.trod_string hu ht
  refine ⟨s, ?_⟩
  have := hc 0 (.string s) (by rw [hz]; rfl)
  simpa using this
end
end Go.Proofs.Ytahcbgllnoopgaa
