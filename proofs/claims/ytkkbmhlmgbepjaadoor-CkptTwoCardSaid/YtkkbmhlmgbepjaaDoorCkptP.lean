/-
  Plain Lean: the records of checkpoints, and what is read out of a block; which of two counts. No program. By an AI agent.
-/
import Derived.Test.YtkkbmhlmgbepjaaDoorInodeP
namespace Go.Proofs.YtkkbmhlmgbepjaaDoor.Ck
open Pk (isW chk rec1 recs nums need val be clr)
open Crc (sealed held)
open Nd (pW pV ptrsOf ptrAt pW_len pV_len pV_of ptrsOf_len ptrsOf_lt val_lt_of)

/-- A checkpoint. -/
structure Ck where
  s : Int
  n : Int
  a : Int
  mp : List (Int × Nat)
  us : List Int
deriving DecidableEq
def Ck.zero : Ck := ⟨0, 0, 0, List.replicate 4 (0, 0), List.replicate 8 0⟩
def ptB (p : Int × Nat) : Bool := decide (1 ≤ p.1 ∧ p.1 ≤ 2147483647)
def usB (u : Int) : Bool := decide (0 ≤ u ∧ u ≤ 256)
def hdB (s n a : Int) : Bool := decide (1 ≤ s ∧ s ≤ 281474976710655 ∧ 1 ≤ n ∧ n ≤ 281474976710655 ∧ 1 ≤ a ∧ a ≤ 2147483647)
def mayB (x : Ck) : Bool := hdB x.s x.n x.a && (x.mp.all ptB && x.us.all usB)
def uW (n : Nat) : List Int := List.replicate n 2
def uV (us : List Int) : List Nat := us.map Int.toNat
def ckW : List Int := [4, 6, 6, 4] ++ (pW 4 ++ uW 8)
def ckV (x : Ck) : List Nat := [1667985524, x.s.toNat, x.n.toNat, x.a.toNat] ++ (pV x.mp ++ uV x.us)
def ckE (x : Ck) : List UInt8 := sealed (recs (ckW.zip (ckV x)))
def usAt (l : List UInt8) (i : Nat) : Int := (val ((l.drop (2 * i)).take 2) : Nat)
def usOf (l : List UInt8) (n : Nat) : List Int := (List.range n).map (usAt l)
def ckOf (l : List UInt8) : Ck := ⟨(val ((l.drop 4).take 6) : Nat), (val ((l.drop 10).take 6) : Nat), (val ((l.drop 16).take 4) : Nat), ptrsOf (l.drop 20) 4, usOf (l.drop 52) 8⟩
def rdB (l : List UInt8) : Bool := clr (l.take 124) (68 : Nat) && val (l.take 4) == 1667985524
def ckErr (l : List UInt8) : Nat := if held l then (if rdB l && mayB (ckOf l) then 0 else 3) else 5
/-- An argument's checkpoint. -/
def Good (x : Ck) : Prop := x.mp.length = 4 ∧ x.us.length = 8 ∧ ∀ p ∈ x.mp, p.2 < 4294967296

theorem usAt_drop (l : List UInt8) (i : Nat) : usAt (l.drop 2) i = usAt l (i + 1) := by
  unfold usAt
  rw [List.drop_drop, show 2 + 2 * i = 2 * (i + 1) by omega]
theorem usOf_succ (l : List UInt8) (n : Nat) : usOf l (n + 1) = usAt l 0 :: usOf (l.drop 2) n := by
  unfold usOf
  rw [List.range_succ_eq_map, List.map_cons, List.map_map]
  congr 1
  refine List.map_congr_left fun i _ => ?_
  rw [usAt_drop]; rfl
theorem usOf_len (l : List UInt8) (n : Nat) : (usOf l n).length = n := by unfold usOf; simp
theorem usOf_snoc (l : List UInt8) (n : Nat) : usOf l (n + 1) = usOf l n ++ [usAt l n] := by unfold usOf; rw [List.range_succ, List.map_append]; rfl
theorem uV_of : ∀ (n : Nat) (l : List UInt8), uV (usOf l n) = nums l (uW n)
  | 0, _ => rfl
  | n + 1, l => by
    rw [usOf_succ, uW, List.replicate_succ, nums]
    show _ :: uV (usOf (l.drop 2) n) = _
    rw [uV_of n]
    rfl
theorem usOf_nonneg (l : List UInt8) (n : Nat) : ∀ u ∈ usOf l n, 0 ≤ u := by
  intro u hu
  unfold usOf at hu
  obtain ⟨i, _, rfl⟩ := List.mem_map.1 hu
  exact Int.natCast_nonneg _
theorem uV_inj : ∀ (us vs : List Int), (∀ u ∈ us, 0 ≤ u) → (∀ u ∈ vs, 0 ≤ u) → uV us = uV vs → us = vs
  | [], [], _, _, _ => rfl
  | [], _ :: _, _, _, h => by cases h
  | _ :: _, [], _, _, h => by cases h
  | u :: us, v :: vs, hu, hv, h => by
    unfold uV at h
    simp only [List.map_cons, List.cons.injEq] at h
    rw [uV_inj us vs (fun x hx => hu x (List.mem_cons_of_mem _ hx)) (fun x hx => hv x (List.mem_cons_of_mem _ hx)) h.2]
    have h1 := hu u List.mem_cons_self
    have h2 := hv v List.mem_cons_self
    have h3 := h.1
    congr 1
    omega
theorem pV_inj0 : ∀ (ps qs : List (Int × Nat)), (∀ p ∈ ps, 0 ≤ p.1) → (∀ p ∈ qs, 0 ≤ p.1) → pV ps = pV qs → ps = qs
  | [], [], _, _, _ => rfl
  | [], q :: qs, _, _, h => by rw [Nd.pV_cons] at h; cases h
  | p :: ps, [], _, _, h => by rw [Nd.pV_cons] at h; cases h
  | p :: ps, q :: qs, hp, hq, h => by
    rw [Nd.pV_cons, Nd.pV_cons] at h
    simp only [List.cons.injEq] at h
    rw [pV_inj0 ps qs (fun x hx => hp x (List.mem_cons_of_mem _ hx)) (fun x hx => hq x (List.mem_cons_of_mem _ hx)) h.2.2]
    congr 1
    have h1 := hp p List.mem_cons_self
    have h2 := hq q List.mem_cons_self
    obtain ⟨a, b⟩ := p
    obtain ⟨c, d⟩ := q
    simp only [Prod.mk.injEq]
    simp only at h h1 h2
    omega
theorem ptrsOf_nonneg (l : List UInt8) (n : Nat) : ∀ p ∈ ptrsOf l n, 0 ≤ p.1 := by
  intro p hp
  unfold ptrsOf at hp
  obtain ⟨i, _, rfl⟩ := List.mem_map.1 hp
  exact Int.natCast_nonneg _
theorem all_nonneg {ps : List (Int × Nat)} (h : ps.all ptB = true) : ∀ p ∈ ps, 0 ≤ p.1 := by
  intro p hp
  have := List.all_eq_true.1 h p hp
  unfold ptB at this
  rw [decide_eq_true_iff] at this
  omega
theorem us_nonneg {us : List Int} (h : us.all usB = true) : ∀ u ∈ us, 0 ≤ u := by
  intro p hp
  have := List.all_eq_true.1 h p hp
  unfold usB at this
  rw [decide_eq_true_iff] at this
  omega
theorem may_parts {x : Ck} (h : mayB x = true) : (1 ≤ x.s ∧ x.s ≤ 281474976710655 ∧ 1 ≤ x.n ∧ x.n ≤ 281474976710655 ∧ 1 ≤ x.a ∧ x.a ≤ 2147483647) ∧ x.mp.all ptB = true ∧ x.us.all usB = true := by
  unfold mayB hdB at h
  rw [Bool.and_eq_true, Bool.and_eq_true, decide_eq_true_iff] at h
  exact h
theorem ck_ptr {ps : List (Int × Nat)} (h : ps.all ptB = true) : ps.all Nd.ptrB = true := by
  rw [List.all_eq_true] at h ⊢
  intro p hp
  have := h p hp
  unfold ptB at this
  unfold Nd.ptrB
  rw [decide_eq_true_iff] at this ⊢
  omega
theorem uV_chk : ∀ (us : List Int), us.all usB = true → ∀ x ∈ (uW us.length).zip (uV us), chk x = 0
  | [], _, x, hx => by simp [uW, uV] at hx
  | u :: us, h, x, hx => by
    unfold uW uV at hx
    rw [List.length_cons, List.replicate_succ, List.map_cons, List.zip_cons_cons] at hx
    simp only [List.all_cons, Bool.and_eq_true] at h
    have h1 := h.1
    unfold usB at h1
    rw [decide_eq_true_iff] at h1
    rcases List.mem_cons.1 hx with rfl | hx
    · refine Pk.chk_ok rfl ?_
      simp; omega
    · exact uV_chk us h.2 x hx
theorem need_ck : need ckW = 68 := rfl
theorem uV_len (us : List Int) : (uV us).length = us.length := by unfold uV; simp
theorem ckV_len (x : Ck) (hg : Good x) : (ckV x).length = ckW.length := by
  unfold ckV ckW
  simp only [List.length_append, pV_len, pW_len, uV_len, hg.1, hg.2.1]
  rfl
theorem ck_chk (x : Ck) (hm : mayB x = true) (hg : Good x) : ∀ y ∈ ckW.zip (ckV x), chk y = 0 := by
  obtain ⟨h1, h2, h3⟩ := may_parts hm
  intro y hy
  unfold ckW ckV at hy
  rw [Nd.zip_app _ _ _ _ rfl] at hy
  rcases List.mem_append.1 hy with hy | hy
  · simp only [List.zip_cons_cons, List.zip_nil_right, List.mem_cons, List.not_mem_nil, or_false] at hy
    rcases hy with rfl | rfl | rfl | rfl <;> refine Pk.chk_ok rfl ?_ <;> simp <;> omega
  · rw [Nd.zip_app _ _ _ _ (by rw [pW_len, pV_len, hg.1])] at hy
    rcases List.mem_append.1 hy with hy | hy
    · rw [← hg.1] at hy
      exact Nd.pV_chk x.mp (ck_ptr h2) hg.2.2 y hy
    · rw [← hg.2.1] at hy
      exact uV_chk x.us h3 y hy
theorem ckE_len (x : Ck) (hg : Good x) : (recs (ckW.zip (ckV x))).length = 68 := Cd.recs_len ckW _ (ckV_len x hg)
theorem good_of (l : List UInt8) : Good (ckOf l) := ⟨ptrsOf_len _ 4, usOf_len _ 8, ptrsOf_lt _ 4⟩
theorem nums_ck (l : List UInt8) : nums l ckW = val (l.take 4) :: (ckV (ckOf l)).drop 1 := by
  unfold ckW ckV ckOf
  simp only [List.drop_succ_cons, List.drop_zero, List.cons_append, List.nil_append]
  rw [pV_of, uV_of]
  simp only [pW, uW, List.replicate, nums, List.drop_drop, List.cons_append, List.nil_append]
  rfl
theorem ckV_inj (x y : Ck) (hx : mayB x = true) (hy : mayB y = true) (gx : Good x) (gy : Good y) (h : ckV x = ckV y) : x = y := by
  obtain ⟨h1, h2, h3⟩ := may_parts hx
  obtain ⟨k1, k2, k3⟩ := may_parts hy
  unfold ckV at h
  simp only [List.cons_append, List.nil_append, List.cons.injEq] at h
  obtain ⟨_, e1, e2, e3, e4⟩ := h
  have hl : (pV x.mp).length = (pV y.mp).length := by rw [pV_len, pV_len, gx.1, gy.1]
  obtain ⟨e5, e6⟩ := List.append_inj e4 hl
  have m := pV_inj0 _ _ (all_nonneg h2) (all_nonneg k2) e5
  have u := uV_inj _ _ (us_nonneg h3) (us_nonneg k3) e6
  obtain ⟨a, b, c, d, k⟩ := x
  obtain ⟨a', b', c', d', k'⟩ := y
  simp only at *
  rw [Ck.mk.injEq]
  refine ⟨?_, ?_, ?_, m, u⟩ <;> omega
theorem ck_iff (l : List UInt8) (hh : held l = true) (hm : mayB (ckOf l) = true) : ckE (ckOf l) = l ↔ rdB l = true := by
  unfold ckE
  rw [Cd.seal_iff l ckW _ (ckV_len _ (good_of l)) (ck_chk _ hm (good_of l)) (by rw [need_ck]; omega) hh, nums_ck, need_ck]
  unfold rdB ckV
  simp only [List.drop_succ_cons, List.drop_zero, List.cons_append, List.nil_append, List.cons.injEq, and_true, Bool.and_eq_true, beq_iff_eq]
  exact And.comm
theorem ck_doc (l : List UInt8) : ckErr l = if held l then (if mayB (ckOf l) ∧ ckE (ckOf l) = l then 0 else 3) else 5 := by
  unfold ckErr
  cases hh : held l with
  | false => rfl
  | true =>
    rw [if_pos rfl, if_pos rfl]
    cases hm : mayB (ckOf l) with
    | false => simp
    | true =>
      have hq := ck_iff l hh hm
      by_cases he : ckE (ckOf l) = l
      · rw [hq.1 he, if_pos (c := (true && true) = true) rfl, if_pos ⟨rfl, he⟩]
      · rw [if_neg (fun h => he (hq.2 (by simpa using h))), if_neg (fun h => he h.2)]
/-- What is read out of a block that was made. -/
theorem ck_back (x : Ck) (hx : mayB x = true) (gx : Good x) : ckOf (ckE x) = x ∧ ckErr (ckE x) = 0 := by
  obtain ⟨h1, h2, h3⟩ := Cd.sealed_reads ckW (ckV x) (ckV_len x gx) (ck_chk x hx gx) (by rw [need_ck]; omega)
  change held (ckE x) = true at h1
  change nums (ckE x) ckW = _ at h2
  change clr ((ckE x).take 124) _ = true at h3
  rw [need_ck] at h3
  revert h1 h2 h3
  generalize ckE x = l
  intro h1 h2 h3
  rw [nums_ck] at h2
  obtain ⟨p1, p2, p3⟩ := may_parts hx
  have e : ckOf l = x := by
    unfold ckV at h2
    simp only [List.drop_succ_cons, List.drop_zero, List.cons_append, List.nil_append, List.cons.injEq] at h2
    obtain ⟨_, e1, e2, e3, e4⟩ := h2
    have hl : (pV (ckOf l).mp).length = (pV x.mp).length := by rw [pV_len, pV_len, gx.1, (good_of l).1]
    obtain ⟨e5, e6⟩ := List.append_inj e4 hl
    have m := pV_inj0 _ _ (ptrsOf_nonneg _ _) (all_nonneg p2) e5
    have u := uV_inj _ _ (usOf_nonneg _ _) (us_nonneg p3) e6
    obtain ⟨a', b', c', d', k'⟩ := x
    simp only at e1 e2 e3 p1 m u
    unfold ckOf at e1 e2 e3 ⊢
    simp only [Int.toNat_natCast] at e1 e2 e3
    rw [Ck.mk.injEq]
    refine ⟨?_, ?_, ?_, m, u⟩ <;> omega
  refine ⟨e, ?_⟩
  unfold ckErr rdB
  rw [h1, if_pos rfl, e, hx, h3]
  have : val (l.take 4) = 1667985524 := by
    unfold ckV at h2
    simp only [List.drop_succ_cons, List.drop_zero, List.cons_append, List.nil_append, List.cons.injEq] at h2
    exact h2.1
  rw [this]; rfl

/-! ### Which one counts -/
/-- Octets that are a checkpoint in place r. -/
def okAt (r : Int) (l : List UInt8) : Bool := ckErr l == 0 && decide ((ckOf l).s % 2 = r)
/-- What is chosen. -/
def chose (a b : List UInt8) : Option Ck :=
  if okAt 1 b = true ∧ (okAt 0 a = true → (ckOf a).s < (ckOf b).s) then some (ckOf b) else if okAt 0 a = true then some (ckOf a) else none
theorem err_may {l : List UInt8} (h : ckErr l = 0) : mayB (ckOf l) = true ∧ held l = true := by
  unfold ckErr at h
  cases hh : held l with
  | false => rw [hh] at h; simp at h
  | true =>
    rw [hh, if_pos rfl] at h
    cases hm : mayB (ckOf l) with
    | false => rw [hm] at h; simp at h
    | true => exact ⟨rfl, rfl⟩
theorem err_cases (l : List UInt8) : ckErr l = 0 ∨ ckErr l = 3 ∨ ckErr l = 5 := by
  unfold ckErr
  split
  · split
    · exact .inl rfl
    · exact .inr (.inl rfl)
  · exact .inr (.inr rfl)
end Go.Proofs.YtkkbmhlmgbepjaaDoor.Ck
