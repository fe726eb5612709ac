/-
  What two places hold behind some rounds of CkptTwo, and what is chosen of it. No program's step. By an AI agent.
-/
import Derived.Test.YtkkbmhlmgbepjaaDoorCkL
namespace Go.Proofs.YtkkbmhlmgbepjaaDoor
open Go.RowKit

/-- The checkpoint of round k. -/
def nthC (X : Ck.Ck) (k : Nat) : Ck.Ck := ⟨X.s + k, X.n, X.a + k, X.mp, X.us⟩
theorem nthC_good {X : Ck.Ck} (h : Ck.Good X) (k : Nat) : Ck.Good (nthC X k) := h
/-- What place p holds behind k rounds. -/
def plcAt (X : Ck.Ck) (k : Nat) (p : Int) : List UInt8 :=
  if k = 0 then zer else if (X.s + (k - 1 : Nat)) % 2 = p then Ck.ckE (nthC X (k - 1)) else if k = 1 then zer else Ck.ckE (nthC X (k - 2))
theorem plcAt_zero (X : Ck.Ck) (p : Int) : plcAt X 0 p = zer := by unfold plcAt; rw [if_pos rfl]
theorem plcAt_hit (X : Ck.Ck) (k : Nat) (p : Int) (h : (X.s + k) % 2 = p) : plcAt X (k + 1) p = Ck.ckE (nthC X k) := by
  unfold plcAt
  rw [if_neg (by omega), Nat.add_sub_cancel, if_pos h]
theorem plcAt_miss (X : Ck.Ck) (k : Nat) (p : Int) (h : (X.s + k) % 2 ≠ p) (hp : p = 0 ∨ p = 1) : plcAt X (k + 1) p = plcAt X k p := by
  unfold plcAt
  rw [if_neg (by omega), Nat.add_sub_cancel, if_neg h]
  by_cases hk : k = 0
  · subst hk; rfl
  · rw [if_neg (by omega), if_neg hk, if_pos (by omega)]
    congr 2
theorem ckErr_back {X : Ck.Ck} (hm : Ck.mayB X = true) (hg : Ck.Good X) : Ck.ckErr (Ck.ckE X) = 0 ∧ dec (Ck.ckE X) = X := by
  have hbk := Ck.ck_back X hm hg
  exact ⟨hbk.2, by unfold dec; rw [if_pos hbk.2]; exact hbk.1⟩
theorem chs1_zer : chs1 zer = Ck.Ck.zero := by
  unfold chs1
  rw [if_neg (fun h => by rw [ckErr_zer] at h; exact absurd h.1 (by decide))]
theorem chs2_zer (a : List UInt8) : chs a zer 2 = chs1 a := by
  show chs2 a zer = _
  unfold chs2
  rw [if_neg (fun h => by rw [ckErr_zer] at h; exact absurd h.1 (by decide))]
theorem chs1_at {X : Ck.Ck} (hm : Ck.mayB X = true) (hg : Ck.Good X) : chs1 (Ck.ckE X) = if X.s % 2 = 0 then X else Ck.Ck.zero := by
  obtain ⟨h1, h2⟩ := ckErr_back hm hg
  have hp := (Ck.may_parts hm).1
  unfold chs1
  rw [h2]
  by_cases h : X.s % 2 = 0
  · rw [if_pos ⟨h1, h, by show (0 : Int) < _; omega⟩, if_pos h]
  · rw [if_neg (fun q => h q.2.1), if_neg h]
theorem chs2_at {X : Ck.Ck} (a : List UInt8) (hm : Ck.mayB X = true) (hg : Ck.Good X) : chs a (Ck.ckE X) 2 = if X.s % 2 = 1 ∧ (chs1 a).s < X.s then X else chs1 a := by
  obtain ⟨h1, h2⟩ := ckErr_back hm hg
  show chs2 a (Ck.ckE X) = _
  unfold chs2
  rw [h2]
  by_cases h : X.s % 2 = 1 ∧ (chs1 a).s < X.s
  · rw [if_pos ⟨h1, h⟩, if_pos h]
  · rw [if_neg (fun q => h q.2), if_neg h]
/-- Behind a round the last one is chosen. -/
theorem two_last (X : Ck.Ck) (k : Nat) (hg : Ck.Good X) (hm : ∀ j, j < k + 1 → Ck.mayB (nthC X j) = true) :
    chs (plcAt X (k + 1) 0) (plcAt X (k + 1) 1) 2 = nthC X k := by
  have hk := hm k (by omega)
  have hs : (nthC X k).s = X.s + k := rfl
  have hp := (Ck.may_parts hk).1
  by_cases h : (X.s + k) % 2 = 0
  · rw [plcAt_hit X k 0 h, plcAt_miss X k 1 (by omega) (.inr rfl)]
    have h1 : chs1 (Ck.ckE (nthC X k)) = nthC X k := by rw [chs1_at hk (nthC_good hg k), if_pos (by rw [hs]; exact h)]
    match k, hm, h, h1 with
    | 0, _, _, h1 => rw [plcAt_zero, chs2_zer, h1]
    | j + 1, hm, h, h1 =>
      have hj := hm j (by omega)
      rw [plcAt_hit X j 1 (by omega), chs2_at _ hj (nthC_good hg j), h1, if_neg]
      rintro ⟨_, hlt⟩
      change X.s + ((j + 1 : Nat) : Int) < X.s + (j : Int) at hlt
      omega
  · rw [plcAt_hit X k 1 (by omega), plcAt_miss X k 0 (by omega) (.inl rfl), chs2_at _ hk (nthC_good hg k)]
    match k, hm, h, hs, hp with
    | 0, _, h, hs, hp =>
      rw [plcAt_zero, chs1_zer, if_pos ⟨by omega, by show (0 : Int) < _; omega⟩]
    | j + 1, hm, h, hs, hp =>
      have hj := hm j (by omega)
      have hjs : (nthC X j).s = X.s + j := rfl
      have h1 : chs1 (Ck.ckE (nthC X j)) = nthC X j := by rw [chs1_at hj (nthC_good hg j), if_pos (by omega)]
      rw [plcAt_hit X j 0 (by omega), h1, if_pos ⟨by omega, by omega⟩]
/-- The last one's place spoilt: the one ahead. -/
theorem two_spoilt (X : Ck.Ck) (k : Nat) (hg : Ck.Good X) (hm : ∀ j, j < k + 2 → Ck.mayB (nthC X j) = true) :
    chs (if (X.s + ((k + 1 : Nat) : Int)) % 2 = 0 then zer else plcAt X (k + 2) 0) (if (X.s + ((k + 1 : Nat) : Int)) % 2 = 0 then plcAt X (k + 2) 1 else zer) 2 = nthC X k := by
  have hk := hm k (by omega)
  have hs : (nthC X k).s = X.s + k := rfl
  have hp := (Ck.may_parts hk).1
  by_cases h : (X.s + ((k + 1 : Nat) : Int)) % 2 = 0
  · rw [if_pos h, if_pos h, plcAt_miss X (k + 1) 1 (by omega) (.inr rfl), plcAt_hit X k 1 (by omega), chs2_at _ hk (nthC_good hg k), chs1_zer, if_pos ⟨by omega, by show (0 : Int) < _; omega⟩]
  · rw [if_neg h, if_neg h, plcAt_miss X (k + 1) 0 (by omega) (.inl rfl), plcAt_hit X k 0 (by omega), chs2_zer, chs1_at hk (nthC_good hg k), if_pos (by omega)]
theorem one_spoilt (X : Ck.Ck) :
    chs (if X.s % 2 = 0 then zer else plcAt X 1 0) (if X.s % 2 = 0 then plcAt X 1 1 else zer) 2 = Ck.Ck.zero := by
  by_cases h : X.s % 2 = 0
  · rw [if_pos h, if_pos h, plcAt_miss X 0 1 (by omega) (.inr rfl), plcAt_zero, chs2_zer, chs1_zer]
  · rw [if_neg h, if_neg h, plcAt_miss X 0 0 (by omega) (.inl rfl), plcAt_zero, chs2_zer, chs1_zer]
/-- What place p holds, the last one's spoilt. -/
def spoil (X : Ck.Ck) (n : Nat) (p : Int) : List UInt8 := if (X.s + n - 1) % 2 = p then zer else plcAt X n p
theorem spoil_one (X : Ck.Ck) : chs (spoil X 1 0) (spoil X 1 1) 2 = Ck.Ck.zero := by
  have h := one_spoilt X
  have e : X.s + ((1 : Nat) : Int) - 1 = X.s := by omega
  unfold spoil
  rw [e]
  by_cases q : X.s % 2 = 0
  · rw [if_pos q, if_pos q] at h
    rw [if_pos q, if_neg (by omega)]
    exact h
  · rw [if_neg q, if_neg q] at h
    rw [if_neg q, if_pos (by omega)]
    exact h
theorem spoil_two (X : Ck.Ck) (k : Nat) (hg : Ck.Good X) (hm : ∀ j, j < k + 2 → Ck.mayB (nthC X j) = true) : chs (spoil X (k + 2) 0) (spoil X (k + 2) 1) 2 = nthC X k := by
  have h := two_spoilt X k hg hm
  have e : X.s + ((k + 2 : Nat) : Int) - 1 = X.s + ((k + 1 : Nat) : Int) := by omega
  unfold spoil
  rw [e]
  by_cases q : (X.s + ((k + 1 : Nat) : Int)) % 2 = 0
  · rw [if_pos q, if_pos q] at h
    rw [if_pos q, if_neg (by omega)]
    exact h
  · rw [if_neg q, if_neg q] at h
    rw [if_neg q, if_pos (by omega)]
    exact h
end Go.Proofs.YtkkbmhlmgbepjaaDoor
