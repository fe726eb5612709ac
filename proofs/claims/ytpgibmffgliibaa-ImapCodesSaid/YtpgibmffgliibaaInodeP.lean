/-
  Plain Lean: the records of inodes and nodes, and what is read out of a block. No program. By an AI agent.
-/
import Derived.Test.YtpgibmffgliibaaCodeP
namespace Go.Proofs.Ytpgibmffgliibaa.Nd
open Pk (isW chk rec1 recs nums need val be clr)
open Crc (sealed held)

/-- An inode: its five numbers and its pointers. -/
structure In where
  t : Int
  l : Int
  v : Int
  s : Int
  k : Int
  ps : List (Int × Nat)
deriving DecidableEq
def In.zero : In := ⟨0, 0, 0, 0, 0, List.replicate 9 (0, 0)⟩
def ptrB (p : Int × Nat) : Bool := decide (0 ≤ p.1 ∧ p.1 ≤ 2147483647 ∧ (p.1 = 0 → p.2 = 0))
def headB (t l v s k : Int) : Bool := decide ((t = 1 ∨ t = 2) ∧ 0 ≤ l ∧ l ≤ 200 ∧ 0 ≤ v ∧ v ≤ 2147483647 ∧ 0 ≤ s ∧ s ≤ 1099511627776 ∧ 0 ≤ k ∧ k ≤ 2147483647)
def mayB (x : In) : Bool := headB x.t x.l x.v x.s x.k && x.ps.all ptrB
def inoB (i : Int) : Bool := decide (1 ≤ i ∧ i ≤ 39)
def pW : Nat → List Int
  | 0 => []
  | n + 1 => 4 :: 4 :: pW n
def pV (ps : List (Int × Nat)) : List Nat := ps.flatMap fun p => [p.1.toNat, p.2]
def inW : List Int := [4, 1, 1, 1, 4, 6, 4] ++ pW 9
def inV (i : Nat) (x : In) : List Nat := [1768845156, i, x.t.toNat, x.l.toNat, x.v.toNat, x.s.toNat, x.k.toNat] ++ pV x.ps
def inE (i : Nat) (x : In) : List UInt8 := sealed (recs (inW.zip (inV i x)))
def ndE (ps : List (Int × Nat)) : List UInt8 := sealed (recs ((pW 15).zip (pV ps)))
def ptrAt (l : List UInt8) (i : Nat) : Int × Nat := ((val ((l.drop (8 * i)).take 4) : Nat), val ((l.drop (8 * i + 4)).take 4))
def ptrsOf (l : List UInt8) (n : Nat) : List (Int × Nat) := (List.range n).map (ptrAt l)
def inOf (l : List UInt8) : In := ⟨(val ((l.drop 5).take 1) : Nat), (val ((l.drop 6).take 1) : Nat), (val ((l.drop 7).take 4) : Nat), (val ((l.drop 11).take 6) : Nat), (val ((l.drop 17).take 4) : Nat), ptrsOf (l.drop 21) 9⟩
/-- What Decode answers. -/
def hdB (i : Int) (l : List UInt8) : Bool := decide (val (l.take 4) = 1768845156 ∧ ((val ((l.drop 4).take 1) : Nat) : Int) = i)
def dErr (i : Int) (l : List UInt8) : Nat :=
  if inoB i then (if held l then (if hdB i l ∧ clr (l.take 124) (93 : Nat) ∧ mayB (inOf l) then 0 else 3) else 5) else 1
def nErr (l : List UInt8) : Nat := if held l then (if clr (l.take 124) (120 : Nat) ∧ (ptrsOf l 15).all ptrB then 0 else 3) else 5

theorem pW_len : ∀ n, (pW n).length = 2 * n
  | 0 => rfl
  | n + 1 => by rw [pW, List.length_cons, List.length_cons, pW_len n]; omega
theorem pV_cons (p : Int × Nat) (ps : List (Int × Nat)) : pV (p :: ps) = p.1.toNat :: p.2 :: pV ps := by unfold pV; rw [List.flatMap_cons]; rfl
theorem pV_len : ∀ ps, (pV ps).length = 2 * ps.length
  | [] => rfl
  | p :: ps => by rw [pV_cons, List.length_cons, List.length_cons, List.length_cons, pV_len ps]; omega
theorem val_lt_of (l : List UInt8) (n : Nat) : val (l.take n) < 256 ^ n :=
  Nat.lt_of_lt_of_le (Pk.val_lt _) (Nat.pow_le_pow_right (by omega) (List.length_take_le _ _))
theorem ptrAt_drop (l : List UInt8) (i : Nat) : ptrAt (l.drop 8) i = ptrAt l (i + 1) := by
  unfold ptrAt
  rw [List.drop_drop, List.drop_drop]
  rw [show 8 + 8 * i = 8 * (i + 1) by omega, show 8 + (8 * i + 4) = 8 * (i + 1) + 4 by omega]
theorem ptrsOf_succ (l : List UInt8) (n : Nat) : ptrsOf l (n + 1) = ptrAt l 0 :: ptrsOf (l.drop 8) n := by
  unfold ptrsOf
  rw [List.range_succ_eq_map, List.map_cons, List.map_map]
  congr 1
  refine List.map_congr_left fun i _ => ?_
  rw [ptrAt_drop]; rfl
theorem ptrsOf_len (l : List UInt8) (n : Nat) : (ptrsOf l n).length = n := by unfold ptrsOf; simp
theorem ptrsOf_snoc (l : List UInt8) (n : Nat) : ptrsOf l (n + 1) = ptrsOf l n ++ [ptrAt l n] := by unfold ptrsOf; rw [List.range_succ, List.map_append]; rfl
theorem pV_of : ∀ (n : Nat) (l : List UInt8), pV (ptrsOf l n) = nums l (pW n)
  | 0, _ => rfl
  | n + 1, l => by
    rw [ptrsOf_succ, pV_cons, pV_of n, pW, nums, nums, List.drop_drop]
    rfl
/-- Pointers that may be are told by their numbers. -/
theorem pV_inj : ∀ (ps qs : List (Int × Nat)), ps.all ptrB = true → qs.all ptrB = true → pV ps = pV qs → ps = qs
  | [], [], _, _, _ => rfl
  | [], q :: qs, _, _, h => by rw [pV_cons] at h; cases h
  | p :: ps, [], _, _, h => by rw [pV_cons] at h; cases h
  | p :: ps, q :: qs, hp, hq, h => by
    rw [pV_cons, pV_cons] at h
    simp only [List.cons.injEq] at h
    simp only [List.all_cons, Bool.and_eq_true] at hp hq
    rw [pV_inj ps qs hp.2 hq.2 h.2.2]
    congr 1
    have h1 := hp.1
    have h2 := hq.1
    unfold ptrB at h1 h2
    rw [decide_eq_true_iff] at h1 h2
    obtain ⟨a, b⟩ := p
    obtain ⟨c, d⟩ := q
    simp only [Prod.mk.injEq]
    simp only at h h1 h2
    omega
theorem pV_chk : ∀ (ps : List (Int × Nat)), ps.all ptrB = true → (∀ p ∈ ps, p.2 < 4294967296) → ∀ x ∈ (pW ps.length).zip (pV ps), chk x = 0
  | [], _, _, x, hx => by simp [pW, pV] at hx
  | p :: ps, hp, hs, x, hx => by
    rw [pV_cons, List.length_cons, pW, List.zip_cons_cons, List.zip_cons_cons] at hx
    simp only [List.all_cons, Bool.and_eq_true] at hp
    have h1 := hp.1
    unfold ptrB at h1
    rw [decide_eq_true_iff] at h1
    have h2 := hs p List.mem_cons_self
    rcases List.mem_cons.1 hx with rfl | hx
    · refine Pk.chk_ok rfl ?_
      simp; omega
    · rcases List.mem_cons.1 hx with rfl | hx
      · refine Pk.chk_ok rfl ?_
        simp; omega
      · exact pV_chk ps hp.2 (fun q hq => hs q (List.mem_cons_of_mem _ hq)) x hx
/-- An inode as arguments give it. -/
def Good (x : In) : Prop := x.ps.length = 9 ∧ ∀ p ∈ x.ps, p.2 < 4294967296
theorem need_in : need inW = 93 := rfl
theorem need_nd : need (pW 15) = 120 := rfl
theorem zip_app (a : List Int) (b : List Nat) (c : List Int) (d : List Nat) (h : a.length = b.length) : (a ++ c).zip (b ++ d) = a.zip b ++ c.zip d := List.zip_append h
theorem in_chk (i : Nat) (x : In) (hi : inoB i = true) (hm : mayB x = true) (hg : Good x) : ∀ y ∈ inW.zip (inV i x), chk y = 0 := by
  unfold inoB at hi
  unfold mayB headB at hm
  rw [Bool.and_eq_true, decide_eq_true_iff] at hm
  rw [decide_eq_true_iff] at hi
  obtain ⟨h1, h2⟩ := hm
  intro y hy
  unfold inW inV at hy
  rw [zip_app _ _ _ _ rfl] at hy
  rcases List.mem_append.1 hy with hy | hy
  · simp only [List.zip_cons_cons, List.zip_nil_right, List.mem_cons, List.not_mem_nil, or_false] at hy
    rcases hy with rfl | rfl | rfl | rfl | rfl | rfl | rfl <;> refine Pk.chk_ok rfl ?_ <;> simp <;> omega
  · rw [← hg.1] at hy
    exact pV_chk x.ps h2 hg.2 y hy
theorem inV_len (i : Nat) (x : In) (hg : Good x) : (inV i x).length = inW.length := by
  unfold inV inW
  rw [List.length_append, List.length_append, pV_len, pW_len, hg.1]; rfl
theorem nd_len (ps : List (Int × Nat)) (h : ps.length = 15) : (pV ps).length = (pW 15).length := by rw [pV_len, pW_len, h]
theorem nd_chk (ps : List (Int × Nat)) (h : ps.length = 15) (ha : ps.all ptrB = true) (hs : ∀ p ∈ ps, p.2 < 4294967296) : ∀ x ∈ (pW 15).zip (pV ps), chk x = 0 := by
  rw [← h]; exact pV_chk ps ha hs
theorem inE_len (i : Nat) (x : In) (hg : Good x) : (recs (inW.zip (inV i x))).length = 93 := Cd.recs_len inW _ (inV_len i x hg)
theorem ndE_len (ps : List (Int × Nat)) (h : ps.length = 15) : (recs ((pW 15).zip (pV ps))).length = 120 := Cd.recs_len (pW 15) _ (nd_len ps h)

theorem ptrsOf_lt (l : List UInt8) (n : Nat) : ∀ p ∈ ptrsOf l n, p.2 < 4294967296 := by
  intro p hp
  unfold ptrsOf at hp
  obtain ⟨i, _, rfl⟩ := List.mem_map.1 hp
  exact val_lt_of _ 4
theorem good_of (l : List UInt8) : Good (inOf l) := ⟨ptrsOf_len _ 9, ptrsOf_lt _ 9⟩
theorem nums_in (l : List UInt8) : nums l inW = [val (l.take 4), val ((l.drop 4).take 1)] ++ (inV 0 (inOf l)).drop 2 := by
  unfold inW inV inOf
  simp only [List.drop_succ_cons, List.drop_zero, List.cons_append, List.nil_append]
  rw [pV_of]
  simp only [nums, List.drop_drop]
  rfl
theorem inV_inj (i j : Nat) (x y : In) (hx : mayB x = true) (hy : mayB y = true) : inV i x = inV j y ↔ i = j ∧ x = y := by
  constructor
  · intro h
    unfold inV at h
    simp only [List.cons_append, List.nil_append, List.cons.injEq] at h
    obtain ⟨_, h0, h1, h2, h3, h4, h5, h6⟩ := h
    unfold mayB headB at hx hy
    rw [Bool.and_eq_true, decide_eq_true_iff] at hx hy
    have e := pV_inj _ _ hx.2 hy.2 h6
    refine ⟨h0, ?_⟩
    obtain ⟨a, b, c, d, k, ps⟩ := x
    obtain ⟨a', b', c', d', k', ps'⟩ := y
    simp only at *
    rw [In.mk.injEq]
    refine ⟨?_, ?_, ?_, ?_, ?_, e⟩ <;> omega
  · rintro ⟨rfl, rfl⟩; rfl
theorem in_inj (i j : Nat) (x y : In) (hi : inoB i = true) (hj : inoB j = true) (hx : mayB x = true) (hy : mayB y = true) (gx : Good x) (gy : Good y) : inE i x = inE j y ↔ i = j ∧ x = y := by
  unfold inE
  rw [Cd.sealed_inj inW _ _ (inV_len i x gx) (inV_len j y gy) (in_chk i x hi hx gx) (in_chk j y hj hy gy) (by rw [need_in]; omega), inV_inj i j x y hx hy]
theorem nd_inj (ps qs : List (Int × Nat)) (h : ps.length = 15) (h' : qs.length = 15) (ha : ps.all ptrB = true) (ha' : qs.all ptrB = true) (hs : ∀ p ∈ ps, p.2 < 4294967296) (hs' : ∀ p ∈ qs, p.2 < 4294967296) : ndE ps = ndE qs ↔ ps = qs := by
  unfold ndE
  rw [Cd.sealed_inj (pW 15) _ _ (nd_len ps h) (nd_len qs h') (nd_chk ps h ha hs) (nd_chk qs h' ha' hs') (by rw [need_nd]; omega)]
  exact ⟨pV_inj ps qs ha ha', fun e => by rw [e]⟩
/-- As the document says it. -/
theorem in_iff (i : Nat) (l : List UInt8) (hi : inoB i = true) (hh : held l = true) (hm : mayB (inOf l) = true) : inE i (inOf l) = l ↔ hdB i l = true ∧ clr (l.take 124) (93 : Nat) = true := by
  unfold inE
  rw [Cd.seal_iff l inW _ (inV_len i _ (good_of l)) (in_chk i _ hi hm (good_of l)) (by rw [need_in]; omega) hh, nums_in, need_in]
  unfold hdB
  rw [decide_eq_true_iff]
  unfold inV
  simp only [List.drop_succ_cons, List.drop_zero, List.cons_append, List.nil_append, List.cons.injEq, and_true]
  generalize val (l.take 4) = a
  generalize val ((l.drop 4).take 1) = b
  constructor
  · rintro ⟨⟨h1, h2⟩, h3⟩; exact ⟨⟨h1, by omega⟩, h3⟩
  · rintro ⟨⟨h1, h2⟩, h3⟩; exact ⟨⟨h1, by omega⟩, h3⟩
theorem d_doc (i : Nat) (l : List UInt8) : dErr i l = if inoB i then (if held l then (if mayB (inOf l) ∧ inE i (inOf l) = l then 0 else 3) else 5) else 1 := by
  unfold dErr
  cases hi : inoB (i : Int) with
  | false => rfl
  | true =>
    rw [if_pos rfl, if_pos rfl]
    cases hh : held l with
    | false => rfl
    | true =>
      rw [if_pos rfl, if_pos rfl]
      cases hm : mayB (inOf l) with
      | false => simp
      | true =>
        have hq := in_iff i l hi hh hm
        by_cases he : inE i (inOf l) = l
        · obtain ⟨h1, h2⟩ := hq.1 he
          rw [if_pos ⟨h1, h2, rfl⟩, if_pos ⟨rfl, he⟩]
        · rw [if_neg (fun h => he (hq.2 ⟨h.1, h.2.1⟩)), if_neg (fun h => he h.2)]
theorem n_doc (l : List UInt8) : nErr l = if held l then (if (ptrsOf l 15).all ptrB ∧ ndE (ptrsOf l 15) = l then 0 else 3) else 5 := by
  unfold nErr
  cases hh : held l with
  | false => rfl
  | true =>
    rw [if_pos rfl, if_pos rfl]
    cases hm : (ptrsOf l 15).all ptrB with
    | false => simp
    | true =>
      have hq := Cd.seal_iff l (pW 15) _ (nd_len _ (ptrsOf_len _ _)) (nd_chk _ (ptrsOf_len _ _) hm (ptrsOf_lt _ _)) (by rw [need_nd]; omega) hh
      rw [need_nd, pV_of] at hq
      by_cases he : ndE (ptrsOf l 15) = l
      · have h1 := hq.1 (by rw [← pV_of]; exact he)
        rw [if_pos ⟨h1.2, rfl⟩, if_pos ⟨rfl, he⟩]
      · rw [if_neg (fun h => he (by unfold ndE; rw [pV_of]; exact hq.2 ⟨rfl, h.1⟩)), if_neg (fun h => he h.2)]
/-- What is read out of a block that was made. -/
theorem in_back (i : Nat) (x : In) (hi : inoB i = true) (hx : mayB x = true) (gx : Good x) : inOf (inE i x) = x ∧ dErr i (inE i x) = 0 ∧ ∀ j : Int, j ≠ i → dErr j (inE i x) ≠ 0 := by
  obtain ⟨h1, h2, h3⟩ := Cd.sealed_reads inW (inV i x) (inV_len i x gx) (in_chk i x hi hx gx) (by rw [need_in]; omega)
  change held (inE i x) = true at h1
  change nums (inE i x) inW = _ at h2
  change clr ((inE i x).take 124) _ = true at h3
  rw [need_in] at h3
  revert h1 h2 h3
  generalize inE i x = l
  intro h1 h2 h3
  rw [nums_in] at h2
  unfold inV at h2
  simp only [List.drop_succ_cons, List.drop_zero, List.cons_append, List.nil_append, List.cons.injEq] at h2
  obtain ⟨m1, m2, e1, e2, e3, e4, e5, e6⟩ := h2
  have hx' := hx
  unfold mayB headB at hx'
  rw [Bool.and_eq_true, decide_eq_true_iff] at hx'
  have hps : (inOf l).ps = x.ps := by
    revert e6
    have hs := gx.1
    have hall := hx'.2
    have key : ∀ (n : Nat) (l : List UInt8) (ps : List (Int × Nat)), ps.length = n → ps.all ptrB = true → pV (ptrsOf l n) = pV ps → ptrsOf l n = ps := by
      intro n
      induction n with
      | zero =>
        intro l ps hl _ _
        rw [List.eq_nil_of_length_eq_zero hl]; rfl
      | succ n ih =>
        intro l ps hl ha he
        cases ps with
        | nil => cases hl
        | cons p ps =>
          rw [ptrsOf_succ] at he ⊢
          rw [pV_cons, pV_cons] at he
          simp only [List.cons.injEq] at he
          simp only [List.all_cons, Bool.and_eq_true] at ha
          rw [ih _ ps (by simpa using hl) ha.2 he.2.2]
          congr 1
          have h1 := ha.1
          unfold ptrB at h1
          rw [decide_eq_true_iff] at h1
          obtain ⟨a, b⟩ := p
          have h2 := he.1
          have h3 := he.2.1
          unfold ptrAt at h2 h3 ⊢
          simp only [Prod.mk.injEq]
          simp only [Int.toNat_natCast] at h1 h2 h3
          omega
    exact key 9 (l.drop 21) x.ps hs hall
  have e : inOf l = x := by
    obtain ⟨a, b, c, d, k, ps⟩ := x
    simp only at e1 e2 e3 e4 e5 hps hx'
    unfold inOf at e1 e2 e3 e4 e5 hps ⊢
    simp only [Int.toNat_natCast] at e1 e2 e3 e4 e5 hps
    rw [In.mk.injEq]
    refine ⟨?_, ?_, ?_, ?_, ?_, hps⟩ <;> omega
  refine ⟨e, ?_, ?_⟩
  · unfold dErr
    rw [hi, if_pos rfl, h1, if_pos rfl, e, hx, h3]
    unfold hdB
    rw [m1, m2]; simp
  · intro j hj
    unfold dErr
    rw [h1]
    have : hdB j l = false := by
      unfold hdB
      rw [m2]
      simp
      intro _ h
      exact hj h.symm
    rw [this]
    cases inoB j <;> simp
theorem nd_back (ps : List (Int × Nat)) (h : ps.length = 15) (ha : ps.all ptrB = true) (hs : ∀ p ∈ ps, p.2 < 4294967296) : ptrsOf (ndE ps) 15 = ps ∧ nErr (ndE ps) = 0 := by
  obtain ⟨h1, h2, h3⟩ := Cd.sealed_reads (pW 15) (pV ps) (nd_len ps h) (nd_chk ps h ha hs) (by rw [need_nd]; omega)
  change held (ndE ps) = true at h1
  change nums (ndE ps) (pW 15) = _ at h2
  change clr ((ndE ps).take 124) _ = true at h3
  rw [need_nd] at h3
  rw [← pV_of] at h2
  have e : ptrsOf (ndE ps) 15 = ps := by
    have key : ∀ (qs ps : List (Int × Nat)), ps.all ptrB = true → (∀ q ∈ qs, 0 ≤ q.1) → pV qs = pV ps → qs = ps := by
      intro qs
      induction qs with
      | nil => intro ps _ _ h; cases ps with
        | nil => rfl
        | cons p ps => rw [pV_cons] at h; cases h
      | cons q qs ih => intro ps ha hq h; cases ps with
        | nil => rw [pV_cons] at h; cases h
        | cons p ps =>
          rw [pV_cons, pV_cons] at h
          simp only [List.cons.injEq] at h
          simp only [List.all_cons, Bool.and_eq_true] at ha
          rw [ih ps ha.2 (fun y hy => hq y (List.mem_cons_of_mem _ hy)) h.2.2]
          congr 1
          have h1 := ha.1
          unfold ptrB at h1
          rw [decide_eq_true_iff] at h1
          have h4 := hq q List.mem_cons_self
          obtain ⟨a, b⟩ := p
          obtain ⟨c, d⟩ := q
          simp only [Prod.mk.injEq]
          simp only at h h1 h4
          omega
    refine key _ _ ha ?_ h2
    intro q hq
    unfold ptrsOf at hq
    obtain ⟨i, _, rfl⟩ := List.mem_map.1 hq
    exact Int.natCast_nonneg _
  refine ⟨e, ?_⟩
  unfold nErr
  rw [h1, if_pos rfl, e, ha, h3]; simp
/-- Clear behind the pointers, seen from where they begin. -/
theorem clr_drop (l : List UInt8) (a n : Nat) (h : a ≤ l.length) : clr (l.drop a) (n : Nat) = clr l ((a + n : Nat) : Int) := by
  unfold clr
  simp only [Int.toNat_natCast, List.drop_drop, List.length_drop]
  congr 1
  rw [decide_eq_decide]
  omega
theorem zero_not : mayB In.zero = false := by decide
theorem good_zero : Good In.zero := by
  refine ⟨rfl, ?_⟩
  intro p hp
  unfold In.zero at hp
  rw [List.eq_of_mem_replicate hp]; decide
end Go.Proofs.Ytpgibmffgliibaa.Nd
