/-
  Plain Lean: the summaries of parts, and what is read out of a block. No program. By an AI agent.
-/
import Derived.Test.YtieajlpkiheebaaDoorCodeP
namespace Go.Proofs.YtieajlpkiheebaaDoor.Sm
open Pk (isW chk rec1 recs nums need val be clr)
open Crc (sealed held)

/-- An entry; a part. -/
structure En where
  k : Int
  i : Int
  x : Int
  s : Nat
deriving DecidableEq
structure Pt where
  s : Int
  n : Int
  e : Bool
  l : List En
deriving DecidableEq
def Pt.zero : Pt := ⟨0, 0, false, []⟩
def enB (y : En) : Bool := decide (1 ≤ y.k ∧ y.k ≤ 4 ∧ 0 ≤ y.i ∧ y.i ≤ 255 ∧ 0 ≤ y.x ∧ y.x ≤ 65535)
def hdB (s n : Int) (c : Nat) : Bool := decide (1 ≤ s ∧ s ≤ 281474976710655 ∧ 0 ≤ n ∧ n ≤ 2147483647 ∧ 1 ≤ c ∧ c ≤ 13)
def mayB (p : Pt) : Bool := hdB p.s p.n p.l.length && p.l.all enB
def eW : Nat → List Int
  | 0 => []
  | n + 1 => 1 :: 1 :: 2 :: 4 :: eW n
def eV (l : List En) : List Nat := l.flatMap fun y => [y.k.toNat, y.i.toNat, y.x.toNat, y.s]
def smW (n : Nat) : List Int := [4, 6, 4, 1, 1] ++ eW n
def smV (p : Pt) : List Nat := [1752397165, p.s.toNat, p.n.toNat, p.l.length, p.e.toNat] ++ eV p.l
def smE (p : Pt) : List UInt8 := sealed (recs ((smW p.l.length).zip (smV p)))
def entAt (l : List UInt8) (i : Nat) : En := ⟨(val ((l.drop (8 * i)).take 1) : Nat), (val ((l.drop (8 * i + 1)).take 1) : Nat), (val ((l.drop (8 * i + 2)).take 2) : Nat), val ((l.drop (8 * i + 4)).take 4)⟩
def entsOf (l : List UInt8) (n : Nat) : List En := (List.range n).map (entAt l)
def cnt (l : List UInt8) : Nat := val ((l.drop 14).take 1)
def fin (l : List UInt8) : Nat := val ((l.drop 15).take 1)
def smOf (l : List UInt8) : Pt := ⟨(val ((l.drop 4).take 6) : Nat), (val ((l.drop 10).take 4) : Nat), fin l == 1, entsOf (l.drop 16) (cnt l)⟩
/-- What stands ahead of the entries. -/
def topB (l : List UInt8) : Bool := decide (val (l.take 4) = 1752397165 ∧ cnt l ≤ 13 ∧ fin l ≤ 1)
def smErr (l : List UInt8) : Nat := if held l then (if topB l && (clr (l.take 124) ((16 + 8 * cnt l : Nat) : Int) && mayB (smOf l)) then 0 else 3) else 5
def Good (p : Pt) : Prop := ∀ y ∈ p.l, y.s < 4294967296

theorem eW_len : ∀ n, (eW n).length = 4 * n
  | 0 => rfl
  | n + 1 => by simp only [eW, List.length_cons, eW_len n]; omega
theorem eV_cons (y : En) (l : List En) : eV (y :: l) = y.k.toNat :: y.i.toNat :: y.x.toNat :: y.s :: eV l := by unfold eV; rw [List.flatMap_cons]; rfl
theorem eV_len : ∀ l, (eV l).length = 4 * l.length
  | [] => rfl
  | p :: l => by rw [eV_cons]; simp only [List.length_cons, eV_len l]; omega
theorem need_eW : ∀ n, need (eW n) = 8 * n
  | 0 => rfl
  | n + 1 => by
    rw [eW, Cd.need_cons, Cd.need_cons, Cd.need_cons, Cd.need_cons, need_eW n]
    show 1 + (1 + (2 + (4 + _))) = _
    omega
theorem need_smW (n : Nat) : need (smW n) = 16 + 8 * n := by
  unfold smW
  simp only [List.cons_append, List.nil_append, Cd.need_cons, need_eW]
  show 4 + (6 + (4 + (1 + (1 + _)))) = _
  omega
theorem entAt_drop (l : List UInt8) (i : Nat) : entAt (l.drop 8) i = entAt l (i + 1) := by
  unfold entAt
  simp only [List.drop_drop]
  rw [show 8 + 8 * i = 8 * (i + 1) by omega, show 8 + (8 * i + 1) = 8 * (i + 1) + 1 by omega, show 8 + (8 * i + 2) = 8 * (i + 1) + 2 by omega, show 8 + (8 * i + 4) = 8 * (i + 1) + 4 by omega]
theorem entsOf_succ (l : List UInt8) (n : Nat) : entsOf l (n + 1) = entAt l 0 :: entsOf (l.drop 8) n := by
  unfold entsOf
  rw [List.range_succ_eq_map, List.map_cons, List.map_map]
  congr 1
  refine List.map_congr_left fun i _ => ?_
  rw [entAt_drop]; rfl
theorem entsOf_len (l : List UInt8) (n : Nat) : (entsOf l n).length = n := by unfold entsOf; simp
theorem entsOf_snoc (l : List UInt8) (n : Nat) : entsOf l (n + 1) = entsOf l n ++ [entAt l n] := by unfold entsOf; rw [List.range_succ, List.map_append]; rfl
theorem eV_of : ∀ (n : Nat) (l : List UInt8), eV (entsOf l n) = nums l (eW n)
  | 0, _ => rfl
  | n + 1, l => by
    rw [entsOf_succ, eV_cons, eV_of n, eW, nums, nums, nums, nums, List.drop_drop, List.drop_drop, List.drop_drop]
    rfl
theorem val_lt_of (l : List UInt8) (n : Nat) : val (l.take n) < 256 ^ n :=
  Nat.lt_of_lt_of_le (Pk.val_lt _) (Nat.pow_le_pow_right (by omega) (List.length_take_le _ _))
theorem good_of (l : List UInt8) : Good (smOf l) := by
  intro y hy
  unfold smOf entsOf at hy
  obtain ⟨i, _, rfl⟩ := List.mem_map.1 hy
  exact val_lt_of _ 4
def Pos (l : List En) : Prop := ∀ y ∈ l, 0 ≤ y.k ∧ 0 ≤ y.i ∧ 0 ≤ y.x
theorem eV_inj : ∀ (l m : List En), Pos l → Pos m → eV l = eV m → l = m
  | [], [], _, _, _ => rfl
  | [], q :: qs, _, _, h => by rw [eV_cons] at h; cases h
  | p :: ps, [], _, _, h => by rw [eV_cons] at h; cases h
  | p :: ps, q :: qs, hp, hq, h => by
    rw [eV_cons, eV_cons] at h
    simp only [List.cons.injEq] at h
    rw [eV_inj ps qs (fun x hx => hp x (List.mem_cons_of_mem _ hx)) (fun x hx => hq x (List.mem_cons_of_mem _ hx)) h.2.2.2.2]
    congr 1
    have h1 := hp p List.mem_cons_self
    have h2 := hq q List.mem_cons_self
    obtain ⟨a, b, c, d⟩ := p
    obtain ⟨a', b', c', d'⟩ := q
    simp only at h h1 h2
    rw [En.mk.injEq]
    omega
theorem pos_ents (l : List UInt8) (n : Nat) : Pos (entsOf l n) := by
  intro y hy
  unfold entsOf at hy
  obtain ⟨i, _, rfl⟩ := List.mem_map.1 hy
  exact ⟨Int.natCast_nonneg _, Int.natCast_nonneg _, Int.natCast_nonneg _⟩
theorem pos_all {l : List En} (h : l.all enB = true) : Pos l := by
  intro y hy
  have := List.all_eq_true.1 h y hy
  unfold enB at this
  rw [decide_eq_true_iff] at this
  omega
theorem eV_chk : ∀ (l : List En), l.all enB = true → (∀ y ∈ l, y.s < 4294967296) → ∀ x ∈ (eW l.length).zip (eV l), chk x = 0
  | [], _, _, x, hx => by simp [eW, eV] at hx
  | p :: ps, hp, hs, x, hx => by
    rw [eV_cons, List.length_cons, eW, List.zip_cons_cons, List.zip_cons_cons, List.zip_cons_cons, List.zip_cons_cons] at hx
    simp only [List.all_cons, Bool.and_eq_true] at hp
    have h1 := hp.1
    unfold enB at h1
    rw [decide_eq_true_iff] at h1
    have h2 := hs p List.mem_cons_self
    rcases List.mem_cons.1 hx with rfl | hx
    · refine Pk.chk_ok rfl ?_
      simp; omega
    rcases List.mem_cons.1 hx with rfl | hx
    · refine Pk.chk_ok rfl ?_
      simp; omega
    rcases List.mem_cons.1 hx with rfl | hx
    · refine Pk.chk_ok rfl ?_
      simp; omega
    rcases List.mem_cons.1 hx with rfl | hx
    · refine Pk.chk_ok rfl ?_
      simp; omega
    exact eV_chk ps hp.2 (fun q hq => hs q (List.mem_cons_of_mem _ hq)) x hx
theorem may_parts {p : Pt} (h : mayB p = true) : (1 ≤ p.s ∧ p.s ≤ 281474976710655 ∧ 0 ≤ p.n ∧ p.n ≤ 2147483647 ∧ 1 ≤ p.l.length ∧ p.l.length ≤ 13) ∧ p.l.all enB = true := by
  unfold mayB hdB at h
  rw [Bool.and_eq_true, decide_eq_true_iff] at h
  exact h
theorem smV_len (p : Pt) : (smV p).length = (smW p.l.length).length := by
  unfold smV smW
  simp only [List.length_append, eV_len, eW_len]
  rfl
theorem zip_app (a : List Int) (b : List Nat) (c : List Int) (d : List Nat) (h : a.length = b.length) : (a ++ c).zip (b ++ d) = a.zip b ++ c.zip d := List.zip_append h
theorem sm_chk (p : Pt) (hm : mayB p = true) (hg : Good p) : ∀ y ∈ (smW p.l.length).zip (smV p), chk y = 0 := by
  obtain ⟨h1, h2⟩ := may_parts hm
  intro y hy
  unfold smW smV at hy
  rw [zip_app _ _ _ _ rfl] at hy
  rcases List.mem_append.1 hy with hy | hy
  · simp only [List.zip_cons_cons, List.zip_nil_right, List.mem_cons, List.not_mem_nil, or_false] at hy
    have he : p.e.toNat ≤ 1 := by cases p.e <;> decide
    rcases hy with rfl | rfl | rfl | rfl | rfl <;> refine Pk.chk_ok rfl ?_ <;> simp <;> omega
  · exact eV_chk p.l h2 hg y hy
theorem sm_need (p : Pt) (hm : mayB p = true) : need (smW p.l.length) ≤ 124 := by
  have := (may_parts hm).1
  rw [need_smW]; omega
theorem smE_len (p : Pt) : (recs ((smW p.l.length).zip (smV p))).length = 16 + 8 * p.l.length := by
  rw [Cd.recs_len _ _ (smV_len p), need_smW]
theorem nums_sm (l : List UInt8) (n : Nat) : nums l (smW n) = [val (l.take 4), val ((l.drop 4).take 6), val ((l.drop 10).take 4), cnt l, fin l] ++ eV (entsOf (l.drop 16) n) := by
  unfold smW
  rw [eV_of]
  simp only [List.cons_append, List.nil_append, nums, List.drop_drop]
  rfl
theorem fin_toNat (n : Nat) : (n == 1).toNat = n ↔ n ≤ 1 := by
  rcases (by omega : n = 0 ∨ n = 1 ∨ 2 ≤ n) with rfl | rfl | h
  · simp
  · simp
  · have : (n == 1) = false := by rw [beq_eq_false_iff_ne]; omega
    rw [this]
    simp only [Bool.toNat_false]
    omega
theorem sm_iff (l : List UInt8) (hh : held l = true) (hm : mayB (smOf l) = true) : smE (smOf l) = l ↔ topB l = true ∧ clr (l.take 124) ((16 + 8 * cnt l : Nat) : Int) = true := by
  have hlen : (smOf l).l.length = cnt l := entsOf_len _ _
  have hc := may_parts hm
  unfold smE
  rw [Cd.seal_iff l _ _ (smV_len _) (sm_chk _ hm (good_of l)) (sm_need _ hm) hh, nums_sm, need_smW]
  rw [hlen] at hc ⊢
  unfold topB smV smOf
  simp only [entsOf_len, Int.toNat_natCast, List.cons_append, List.nil_append, List.cons.injEq, and_true, true_and, decide_eq_true_iff]
  have := fin_toNat (fin l)
  constructor
  · rintro ⟨⟨h1, h2⟩, h3⟩
    exact ⟨⟨h1, hc.1.2.2.2.2.2, this.1 h2.symm⟩, h3⟩
  · rintro ⟨⟨h1, _, h2⟩, h3⟩
    exact ⟨⟨h1, (this.2 h2).symm⟩, h3⟩
/-- As the document says it. -/
theorem sm_doc (l : List UInt8) : smErr l = if held l then (if mayB (smOf l) ∧ smE (smOf l) = l then 0 else 3) else 5 := by
  unfold smErr
  cases hh : held l with
  | false => rfl
  | true =>
    rw [if_pos rfl, if_pos rfl]
    cases hm : mayB (smOf l) with
    | false => simp
    | true =>
      have hq := sm_iff l hh hm
      by_cases he : smE (smOf l) = l
      · rw [(hq.1 he).1, (hq.1 he).2, if_pos (c := (true && (true && true)) = true) rfl, if_pos ⟨rfl, he⟩]
      · rw [if_neg (fun h => he (hq.2 (by simpa using h))), if_neg (fun h => he h.2)]
theorem big_not (l : List UInt8) (h : 13 < cnt l) : mayB (smOf l) = false := by
  unfold mayB hdB
  rw [show (smOf l).l.length = cnt l from entsOf_len _ _, decide_eq_false (by omega)]
  rfl
/-- What is read out of a block that was made. -/
theorem sm_back (p : Pt) (hp : mayB p = true) (gp : Good p) : smOf (smE p) = p ∧ smErr (smE p) = 0 := by
  obtain ⟨h1, h2, h3⟩ := Cd.sealed_reads _ (smV p) (smV_len p) (sm_chk p hp gp) (sm_need p hp)
  change held (smE p) = true at h1
  change nums (smE p) _ = _ at h2
  change clr ((smE p).take 124) _ = true at h3
  rw [need_smW] at h3
  revert h1 h2 h3
  generalize smE p = l
  intro h1 h2 h3
  rw [nums_sm] at h2
  obtain ⟨p1, p2⟩ := may_parts hp
  unfold smV at h2
  simp only [List.cons_append, List.nil_append, List.cons.injEq] at h2
  obtain ⟨e0, e1, e2, e3, e4, e5⟩ := h2
  have e : smOf l = p := by
    unfold smOf
    rw [e1, e2, e3, e4]
    have hl := eV_inj _ _ (pos_ents _ _) (pos_all p2) e5
    rw [hl]
    obtain ⟨a, b, c, d⟩ := p
    simp only at p1 ⊢
    rw [Pt.mk.injEq]
    refine ⟨by omega, by omega, ?_, rfl⟩
    cases c <;> rfl
  refine ⟨e, ?_⟩
  unfold smErr
  rw [h1, if_pos rfl, e, hp, e3, h3]
  have ht : topB l = true := by
    unfold topB
    rw [e0, e3, e4, decide_eq_true_iff]
    refine ⟨rfl, p1.2.2.2.2.2, ?_⟩
    cases p.e <;> decide
  rw [ht]; rfl
theorem sm_inj (p q : Pt) (hp : mayB p = true) (hq : mayB q = true) (gp : Good p) (gq : Good q) : smE p = smE q ↔ p = q := by
  constructor
  · intro h
    rw [← (sm_back p hp gp).1, h, (sm_back q hq gq).1]
  · rintro rfl; rfl
theorem smErr_may {l : List UInt8} (h : smErr l = 0) : mayB (smOf l) = true := by
  unfold smErr at h
  cases hm : mayB (smOf l) with
  | true => rfl
  | false => rw [hm] at h; split at h <;> simp at h
end Go.Proofs.YtieajlpkiheebaaDoor.Sm
