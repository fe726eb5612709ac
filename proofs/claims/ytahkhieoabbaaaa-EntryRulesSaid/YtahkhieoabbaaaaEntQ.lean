/-
  Plain Lean: entries added from some one on, round, are the same in the end. No program. By an AI agent.
-/
import Derived.Test.YtahkhieoabbaaaaEntF
namespace Go.Proofs.Ytahkhieoabbaaaa.Et
open Go

theorem at_inj {l : List E} (h : l.Pairwise lt) {p q : Nat} (hp : p < l.length) (hq : q < l.length) (he : at_ l p = at_ l q) : p = q := by
  rw [at_get l p hp, at_get l q hq] at he
  have hirr : ∀ a b, a < b → (ha : a < l.length) → (hb : b < l.length) → l[a] ≠ l[b] := fun a b hab ha hb e => by
    have h1 := List.pairwise_iff_getElem.1 h a b ha hb hab
    unfold lt at h1
    rw [e, ord_self] at h1
    omega
  rcases Nat.lt_trichotomy p q with h1 | h1 | h1
  · exact absurd he (hirr p q h1 hp hq)
  · exact h1
  · exact absurd he.symm (hirr q p h1 hq hp)
theorem mod_ne {n t i j : Nat} (hj : j < i) (hi : i < n) : (j + t) % n ≠ (i + t) % n := fun e => by
  have h := Nat.sub_mod_eq_zero_of_mod_eq e.symm
  rw [show i + t - (j + t) = i - j by omega, Nat.mod_eq_of_lt (by omega)] at h
  omega
theorem mod_hit {n t q : Nat} (hq : q < n) : ∃ j, j < n ∧ (j + t) % n = q := by
  have ht : t % n < n := Nat.mod_lt _ (by omega)
  refine ⟨(q + n - t % n) % n, Nat.mod_lt _ (by omega), ?_⟩
  rw [Nat.mod_add_mod]
  have hd := Nat.div_add_mod t n
  have h2 : q + n - t % n + t = q + n * (1 + t / n) := by
    rw [Nat.mul_add, Nat.mul_one]
    omega
  rw [h2, Nat.add_mul_mod_self_left, Nat.mod_eq_of_lt hq]
/-- What is there after i of them. -/
def Round (a b : List E) (t i : Nat) : Prop := mayB b = true ∧ b.length = i ∧ ∀ y, y ∈ b ↔ ∃ j, j < i ∧ y = at_ a ((j + t) % a.length)
theorem round_start (a : List E) (t : Nat) : Round a [] t 0 := ⟨rfl, rfl, fun y => by simp⟩
theorem round_mem {a : List E} {t i : Nat} (hi : i < a.length) : at_ a ((i + t) % a.length) ∈ a := by
  have h := Nat.mod_lt (i + t) (show 0 < a.length by omega)
  rw [at_get a _ h]
  exact List.getElem_mem h
theorem round_ok {a b : List E} {t i : Nat} (ha : mayB a = true) (h : Round a b t i) (hi : i < a.length) : addE b (at_ a ((i + t) % a.length)) = 0 := by
  obtain ⟨h1, h2, h3⟩ := h
  have hma := (may_iff a).1 ha
  have hy := round_mem (t := t) hi
  have hok := hma.2.1 _ hy
  have hn : hasN b (at_ a ((i + t) % a.length)).n = false := by
    cases hh : hasN b (at_ a ((i + t) % a.length)).n with
    | false => rfl
    | true =>
      obtain ⟨z, hz, he⟩ := (hasN_iff _ _).1 hh
      obtain ⟨j, hj, rfl⟩ := (h3 z).1 hz
      have e := eq_name hma.2.2 (round_mem (t := t) (show j < a.length by omega)) hy he
      exact absurd (at_inj hma.2.2 (Nat.mod_lt _ (by omega)) (Nat.mod_lt _ (by omega)) e) (mod_ne hj hi)
  unfold okB at hok
  rw [Bool.and_eq_true] at hok
  unfold addE
  rw [if_pos h1, if_pos hok.1, if_pos hok.2, hn, if_neg (by decide), if_neg (by omega)]
theorem round_step {a b : List E} {t i : Nat} (ha : mayB a = true) (h : Round a b t i) (hi : i < a.length) : Round a (addL b (at_ a ((i + t) % a.length))) t (i + 1) := by
  have h0 := round_ok ha h hi
  obtain ⟨h1, h2, h3⟩ := h
  refine ⟨add_may h0, by rw [add_len h0, h2], fun y => ?_⟩
  rw [add_mem h0, h3]
  constructor
  · rintro (rfl | ⟨j, hj, rfl⟩)
    · exact ⟨i, by omega, rfl⟩
    · exact ⟨j, by omega, rfl⟩
  · rintro ⟨j, hj, rfl⟩
    by_cases hji : j = i
    · subst hji; exact .inl rfl
    · exact .inr ⟨j, by omega, rfl⟩
theorem round_end {a b : List E} {t : Nat} (ha : mayB a = true) (h : Round a b t a.length) : a = b := by
  obtain ⟨h1, h2, h3⟩ := h
  refine ext_sorted a b (may_pw ha) (may_pw h1) fun y => ?_
  rw [h3]
  constructor
  · intro hy
    obtain ⟨q, hq, rfl⟩ := List.mem_iff_getElem.1 hy
    obtain ⟨j, hj, he⟩ := mod_hit (t := t) hq
    exact ⟨j, hj, by rw [he, at_get a q hq]⟩
  · rintro ⟨j, hj, rfl⟩
    exact round_mem hj
end Go.Proofs.Ytahkhieoabbaaaa.Et
