/-
  Plain Lean: what is put is there, what is dropped is not, all others are as before. No program. By an AI agent.
-/
import Derived.Test.YtpgibmffgliibaaImapQ
namespace Go.Proofs.Ytpgibmffgliibaa.Im

theorem getD_set_same {m : List Sl} {n : Nat} (h : n < m.length) (x : Sl) : (m.set n x).getD n Sl.zero = x := by
  rw [List.getD_eq_getElem?_getD, List.getElem?_set_self h]; rfl
theorem getD_set_far {m : List Sl} {n j : Nat} (h : j ≠ n) (x : Sl) : (m.set n x).getD j Sl.zero = m.getD j Sl.zero := by
  rw [List.getD_eq_getElem?_getD, List.getD_eq_getElem?_getD, List.getElem?_set_ne (Ne.symm h)]
theorem may_set {m : List Sl} (h : mayB m = true) {n : Nat} (hn : 1 ≤ n) (x : Sl) (hx : slB x = true) : mayB (m.set n x) = true := by
  refine may_mk (fun y hy => ?_) ?_
  · rcases List.mem_or_eq_of_mem_set hy with hy | rfl
    · exact (may_all h).1 y hy
    · exact hx
  · rw [getD_set_far (by omega)]
    exact (may_all h).2
theorem slB_mk' {x : Sl} (h1 : Nd.ptrB x.ptr = true) (h2 : 0 ≤ x.v) (h3 : x.v ≤ 2147483647) : slB x = true := by
  unfold slB
  rw [h1, decide_eq_true ⟨h2, h3⟩]; rfl
theorem wrong_mk {m : List Sl} {n : Nat} (h : mayB m = true) (h1 : 1 ≤ n) (h2 : n ≤ 39) : wrong m (n : Int) = 0 := by
  unfold wrong inoB
  rw [h, if_pos rfl, decide_eq_true ⟨by omega, by omega⟩, if_pos rfl]
theorem at_nat' (m : List Sl) (n : Nat) : at_ m (n : Int) = m.getD n Sl.zero := by unfold at_; rw [Int.toNat_natCast]
theorem set_set' (m : List Sl) (n : Nat) (x y : Sl) : (m.set n x).set n y = m.set n y := by rw [List.set_set]
/-- What is put, dropped and put again. -/
theorem moves {m : List Sl} (hg : Good m) (i : Int) (p : Int × Nat) (h : putE m i p = 0) :
    ∃ n : Nat, i = n ∧ 1 ≤ n ∧ n ≤ 39 ∧ ∃ X Y : List Sl, putM m i p = X ∧ dropE X i = 0 ∧ dropM X i = Y ∧ putE Y i p = 0 ∧ putM Y i p = X ∧ X.length = 40 ∧ Y.length = 40 ∧ X.getD n Sl.zero = ⟨p.1, p.2, (m.getD n Sl.zero).v⟩ ∧
      (changed m X).length ≤ 1 ∧ (there Y).length + 1 = (there X).length ∧ ∀ j, j ≠ n → X.getD j Sl.zero = m.getD j Sl.zero ∧ Y.getD j Sl.zero = m.getD j Sl.zero := by
  have hw : wrong m i = 0 := by
    unfold putE at h
    split at h
    · assumption
    · exact h
  have hpp : 1 ≤ p.1 ∧ Nd.ptrB p = true := by
    unfold putE at h
    rw [if_pos hw] at h
    split at h
    · assumption
    · cases h
  obtain ⟨hm, hi1, hi2⟩ := wrong_zero hw
  obtain ⟨n, rfl⟩ := Int.eq_ofNat_of_zero_le (show 0 ≤ i by omega)
  have hn1 : 1 ≤ n := by omega
  have hn2 : n ≤ 39 := by omega
  have hs := sl_parts (at_parts hm hg.1 n (by omega))
  have hX : putM m (n : Int) p = m.set n ⟨p.1, p.2, (m.getD n Sl.zero).v⟩ := by unfold putM; rw [if_pos h, at_nat', Int.toNat_natCast]
  have hmX : mayB (m.set n ⟨p.1, p.2, (m.getD n Sl.zero).v⟩) = true := may_set hm hn1 _ (slB_mk' hpp.2 hs.2.2.2.1 hs.2.2.2.2)
  have hXl : (m.set n ⟨p.1, p.2, (m.getD n Sl.zero).v⟩).length = 40 := by rw [List.length_set]; exact hg.1
  have hXn := getD_set_same (m := m) (n := n) (by rw [hg.1]; omega) ⟨p.1, p.2, (m.getD n Sl.zero).v⟩
  have hXf := fun j (hj : j ≠ n) => getD_set_far (m := m) hj ⟨p.1, p.2, (m.getD n Sl.zero).v⟩
  have hcg := chg_le m n ⟨p.1, p.2, (m.getD n Sl.zero).v⟩
  have hXX : ∀ y, (m.set n ⟨p.1, p.2, (m.getD n Sl.zero).v⟩).set n y = m.set n y := fun y => set_set' m n _ y
  rw [hX]
  generalize hXe : m.set n ⟨p.1, p.2, (m.getD n Sl.zero).v⟩ = X at *
  have hdE : dropE X (n : Int) = 0 := by
    unfold dropE
    rw [wrong_mk hmX hn1 hn2, if_pos rfl, at_nat', hXn, if_pos (by show 0 < p.1; omega)]
  have hY : dropM X (n : Int) = X.set n ⟨0, 0, (m.getD n Sl.zero).v⟩ := by
    unfold dropM
    rw [if_pos hdE, at_nat', Int.toNat_natCast, hXn]
  have hmY : mayB (X.set n ⟨0, 0, (m.getD n Sl.zero).v⟩) = true := may_set hmX hn1 _ (slB_mk' (show Nd.ptrB (0, 0) = true by decide) hs.2.2.2.1 hs.2.2.2.2)
  have hYl : (X.set n ⟨0, 0, (m.getD n Sl.zero).v⟩).length = 40 := by rw [List.length_set]; exact hXl
  have hYn := getD_set_same (m := X) (n := n) (by rw [hXl]; omega) ⟨0, 0, (m.getD n Sl.zero).v⟩
  have hYf := fun j (hj : j ≠ n) => getD_set_far (m := X) hj ⟨0, 0, (m.getD n Sl.zero).v⟩
  have hth := thr_drop hXl n (by omega) ⟨0, 0, (m.getD n Sl.zero).v⟩ (by rw [hXn]; show 0 < p.1; omega) rfl
  have hpE : putE (X.set n ⟨0, 0, (m.getD n Sl.zero).v⟩) (n : Int) p = 0 := by
    unfold putE
    rw [wrong_mk hmY hn1 hn2, if_pos rfl, if_pos hpp]
  have hpM : putM (X.set n ⟨0, 0, (m.getD n Sl.zero).v⟩) (n : Int) p = X := by
    unfold putM
    rw [if_pos hpE, at_nat', Int.toNat_natCast, hYn, List.set_set, hXX]
    exact hXe
  refine ⟨n, rfl, hn1, hn2, X, _, rfl, hdE, hY, hpE, hpM, hXl, hYl, hXn, ?_, ?_, fun j hj => ⟨hXf j hj, (hYf j hj).trans (hXf j hj)⟩⟩
  · unfold changed
    rw [hm, hmX]
    exact hcg
  · unfold there
    rw [hmX, hmY, if_pos rfl, if_pos rfl]
    exact hth
/-- The least number that is free. -/
theorem free_says {m : List Sl} (hg : Good m) : (freeE m = 1 ∨ freeE m = 8) ∨ (freeE m = 0 ∧ 0 < freeN m ∧ freeN m < 40 ∧ (m.getD (freeN m) Sl.zero).a = 0) := by
  unfold freeE freeN
  cases hm : mayB m with
  | false => exact .inl (.inl rfl)
  | true =>
    rw [if_pos rfl]
    by_cases h : free m < 40
    · right
      rw [if_pos h, if_pos rfl, if_pos h]
      have h1 := free_le m
      have h2 := free_at m h
      have h3 := sl_parts (at_parts hm hg.1 (free m) h)
      exact ⟨rfl, by omega, h, by omega⟩
    · left; right
      rw [if_neg h]
theorem give_step {x : List Sl} (hg : Good x) (i : Int) (h : giveE x i = 0) :
    ∃ n : Nat, i = n ∧ 1 ≤ n ∧ n ≤ 39 ∧ 0 ≤ (x.getD n Sl.zero).v ∧ (x.getD n Sl.zero).v ≤ 2147483647 ∧ (giveM x i).getD n Sl.zero = ⟨(x.getD n Sl.zero).a, (x.getD n Sl.zero).s, (x.getD n Sl.zero).v + 1⟩ ∧ ∀ j, j ≠ n → (giveM x i).getD j Sl.zero = x.getD j Sl.zero := by
  have hw : wrong x i = 0 := by
    unfold giveE at h
    split at h
    · assumption
    · exact h
  obtain ⟨hm, hi1, hi2⟩ := wrong_zero hw
  obtain ⟨n, rfl⟩ := Int.eq_ofNat_of_zero_le (show 0 ≤ i by omega)
  have hs := sl_parts (at_parts hm hg.1 n (by omega))
  have hX : giveM x (n : Int) = x.set n ⟨(x.getD n Sl.zero).a, (x.getD n Sl.zero).s, (x.getD n Sl.zero).v + 1⟩ := by unfold giveM; rw [if_pos h, at_nat', Int.toNat_natCast]
  rw [hX]
  exact ⟨n, rfl, by omega, by omega, hs.2.2.2.1, hs.2.2.2.2, getD_set_same (by rw [hg.1]; omega) _, fun j hj => getD_set_far hj _⟩
def sameB (m o : List Sl) (k : Nat) : Bool := (List.range k).all fun q => decide (imE m q = imE o q)
theorem sameB_succ (m o : List Sl) (k : Nat) : sameB m o (k + 1) = (sameB m o k && decide (imE m k = imE o k)) := by
  unfold sameB
  rw [List.range_succ, List.all_append]
  simp
theorem same_four {m o : List Sl} (gm : Good m) (go : Good o) (hm : mayB m = true) (ho : mayB o = true) : sameB m o 4 = decide (m = o) := by
  rw [Bool.eq_iff_iff, decide_eq_true_iff, ext_blks gm.1 go.1]
  unfold sameB
  rw [List.all_eq_true]
  constructor
  · intro h k hk
    exact (imE_inj gm go hm ho k hk).1 (of_decide_eq_true (h k (List.mem_range.2 hk)))
  · intro h k hk
    have hk' := List.mem_range.1 hk
    exact decide_eq_true ((imE_inj gm go hm ho k hk').2 (h k hk'))
theorem changed_len {m o : List Sl} (gm : Good m) (go : Good o) (hm : mayB m = true) (ho : mayB o = true) : ((changed m o).length == 0) = decide (m = o) := by
  rw [Bool.eq_iff_iff, beq_iff_eq, decide_eq_true_iff, ← chg_nil gm.1 go.1]
  unfold changed
  rw [hm, ho]
  exact Iff.rfl
end Go.Proofs.Ytpgibmffgliibaa.Im
