/-
  Plain Lean: directory entries: which may be, their octets, what is found, added and taken away. No program. By an AI agent.
-/
import Derived.Test.YtahkhieoabbaaaaTitleQ
namespace Go.Proofs.Ytahkhieoabbaaaa.Et
open Go

/-- An entry. -/
structure E where
  n : List UInt8
  i : Int
  t : Int
deriving DecidableEq
def E.zero : E := ⟨[], 0, 0⟩
def inB (y : E) : Bool := decide (1 ≤ y.i ∧ y.i ≤ 39 ∧ (y.t = 1 ∨ y.t = 2))
def okB (y : E) : Bool := Tl.isN y.n && inB y
def at_ (l : List E) (k : Nat) : E := l.getD k E.zero
/-- What a round asks. -/
def stepB (l : List E) (k : Nat) : Bool := okB (at_ l k) && (k == 0 || Tl.ord (at_ l (k - 1)).n (at_ l k).n == -1)
def upTo (l : List E) (k : Nat) : Bool := (List.range k).all (stepB l)
def mayB (l : List E) : Bool := decide (l.length ≤ 30) && upTo l l.length
theorem upTo_succ (l : List E) (k : Nat) : upTo l (k + 1) = (upTo l k && stepB l k) := by unfold upTo; rw [List.range_succ, List.all_append]; simp
theorem upTo_no {l : List E} {k : Nat} (hk : k < l.length) (h : stepB l k = false) : upTo l l.length = false := by
  cases hu : upTo l l.length with
  | false => rfl
  | true => unfold upTo at hu; rw [List.all_eq_true.1 hu k (List.mem_range.2 hk)] at h; cases h
theorem mayB_no {l : List E} {k : Nat} (hk : k < l.length) (h : stepB l k = false) : mayB l = false := by unfold mayB; rw [upTo_no hk h, Bool.and_false]
theorem at_get (l : List E) (k : Nat) (h : k < l.length) : at_ l k = l[k] := by unfold at_; rw [List.getD_eq_getElem?_getD, List.getElem?_eq_getElem h]; rfl

/-! ### The order -/
theorem ord_swap (a b : List UInt8) : Tl.ord b a = - Tl.ord a b := Tl.cmpI_swap _ _
theorem ord_bd (a b : List UInt8) : Tl.ord a b = -1 ∨ Tl.ord a b = 0 ∨ Tl.ord a b = 1 := by
  have := Tl.cmpI_bound (Tl.nums a) (Tl.nums b)
  unfold Tl.ord; omega
theorem ord_self (a : List UInt8) : Tl.ord a a = 0 := (Tl.ord_zero a a).2 rfl
theorem ord_tr {a b c : List UInt8} (h : Tl.ord a b = -1) (k : Tl.ord b c = -1) : Tl.ord a c = -1 := by
  have h1 : Tl.ord a b ≤ 0 → Tl.ord b c ≤ 0 → Tl.ord a c ≤ 0 := Tl.cmpI_trans _ _ _
  have h2 := h1 (by omega) (by omega)
  rcases ord_bd a c with h3 | h3 | h3
  · exact h3
  · have e := (Tl.ord_zero a c).1 h3
    subst e
    have := ord_swap a b
    omega
  · omega
def lt (y z : E) : Prop := Tl.ord y.n z.n = -1
theorem lt_tr {x y z : E} (h : lt x y) (k : lt y z) : lt x z := ord_tr h k
theorem may_iff (l : List E) : mayB l = true ↔ l.length ≤ 30 ∧ (∀ y ∈ l, okB y = true) ∧ l.Pairwise lt := by
  unfold mayB upTo
  rw [Bool.and_eq_true, decide_eq_true_iff, List.all_eq_true]
  constructor
  · rintro ⟨h1, h2⟩
    have h3 : ∀ k (h : k < l.length), okB l[k] = true ∧ (0 < k → Tl.ord (l[k - 1]'(by omega)).n l[k].n = -1) := by
      intro k hk
      have := h2 k (List.mem_range.2 hk)
      unfold stepB at this
      rw [Bool.and_eq_true, at_get l k hk] at this
      refine ⟨this.1, fun h0 => ?_⟩
      have h4 := this.2
      rw [at_get l (k - 1) (by omega), Bool.or_eq_true, beq_iff_eq, beq_iff_eq] at h4
      rcases h4 with h4 | h4
      · omega
      · exact h4
    refine ⟨h1, fun y hy => ?_, ?_⟩
    · obtain ⟨k, hk, rfl⟩ := List.mem_iff_getElem.1 hy
      exact (h3 k hk).1
    · rw [List.pairwise_iff_getElem]
      intro i j hi hj hij
      obtain ⟨d, rfl⟩ : ∃ d, j = i + 1 + d := ⟨j - i - 1, by omega⟩
      induction d with
      | zero => exact (h3 (i + 1) hj).2 (by omega)
      | succ d ih =>
        have h5 := ih (by omega) (by omega)
        have h6 := (h3 (i + 1 + (d + 1)) hj).2 (by omega)
        exact lt_tr h5 h6
  · rintro ⟨h1, h2, h3⟩
    refine ⟨h1, fun k hk => ?_⟩
    have hk := List.mem_range.1 hk
    unfold stepB
    rw [Bool.and_eq_true, at_get l k hk]
    refine ⟨h2 _ (List.getElem_mem hk), ?_⟩
    rw [Bool.or_eq_true, beq_iff_eq, beq_iff_eq]
    by_cases h0 : k = 0
    · exact .inl h0
    · right
      rw [at_get l (k - 1) (by omega)]
      exact List.pairwise_iff_getElem.1 h3 (k - 1) k (by omega) hk (by omega)

/-! ### Octets -/
def encE (y : E) : List UInt8 := UInt8.ofNat y.i.toNat :: UInt8.ofNat y.t.toNat :: UInt8.ofNat y.n.length :: y.n
def enc (l : List E) : List UInt8 := l.flatMap encE
theorem enc_snoc (l : List E) (y : E) : enc (l ++ [y]) = enc l ++ encE y := by unfold enc; rw [List.flatMap_append]; simp
def entOf (b : List UInt8) : E := ⟨(b.drop 3).take (b.getD 2 0).toNat, ((b.getD 0 0).toNat : Int), ((b.getD 1 0).toNat : Int)⟩
def restOf (b : List UInt8) : List UInt8 := (b.drop 3).drop (b.getD 2 0).toNat
def badB (b : List UInt8) : Bool := decide (b.length < 3) || decide ((b.drop 3).length < (b.getD 2 0).toNat)
def parse : Nat → List UInt8 → Option (List E)
  | 0, _ => some []
  | f + 1, b => if b = [] then some [] else if badB b then none else (parse f (restOf b)).map (entOf b :: ·)
def dec (b : List UInt8) : Option (List E) := parse b.length b
theorem restOf_len (b : List UInt8) (h : b ≠ []) : (restOf b).length < b.length := by
  have : 0 < b.length := List.length_pos_iff.2 h
  unfold restOf
  simp only [List.length_drop]
  omega
theorem parse_fuel : ∀ (f : Nat) (b : List UInt8), b.length ≤ f → parse f b = parse b.length b := by
  have key : ∀ (n f g : Nat) (b : List UInt8), b.length ≤ n → b.length ≤ f → b.length ≤ g → parse f b = parse g b := by
    intro n
    induction n with
    | zero =>
      intro f g b h _ _
      have hb : b = [] := List.eq_nil_of_length_eq_zero (by omega)
      subst hb
      cases f <;> cases g <;> rfl
    | succ n ih =>
      intro f g b h1 h2 h3
      by_cases hb : b = []
      · subst hb
        cases f <;> cases g <;> rfl
      · have h0 : 0 < b.length := List.length_pos_iff.2 hb
        have hr := restOf_len b hb
        obtain ⟨f, rfl⟩ : ∃ f', f = f' + 1 := ⟨f - 1, by omega⟩
        obtain ⟨g, rfl⟩ : ∃ g', g = g' + 1 := ⟨g - 1, by omega⟩
        unfold parse
        rw [if_neg hb, if_neg hb, ih f g (restOf b) (by omega) (by omega) (by omega)]
  intro f b h
  exact key b.length f b.length b (Nat.le_refl _) h (Nat.le_refl _)
theorem dec_nil : dec [] = some [] := rfl
theorem dec_cons (b : List UInt8) (h : b ≠ []) : dec b = if badB b then none else (dec (restOf b)).map (entOf b :: ·) := by
  have h0 : 0 < b.length := List.length_pos_iff.2 h
  have hr := restOf_len b h
  unfold dec
  obtain ⟨f, hf⟩ : ∃ f', b.length = f' + 1 := ⟨b.length - 1, by omega⟩
  rw [hf]
  rw [parse, if_neg h, parse_fuel f (restOf b) (by omega)]
/-- The entries that are read out of octets; whether there are such. -/
def decOk (b : List UInt8) : Bool := match dec b with
  | some l => mayB l
  | none => false
def decL (b : List UInt8) : List E := match dec b with
  | some l => if mayB l then l else []
  | none => []
/-- Where a reader stands: what it has, and what is left. -/
def Stands (b : List UInt8) (l : List E) (r : List UInt8) : Prop := dec b = (dec r).map (l ++ ·)
theorem stands_start (b : List UInt8) : Stands b [] b := by unfold Stands; cases dec b <;> rfl
theorem stands_step {b r : List UInt8} {l : List E} (h : Stands b l r) (hr : r ≠ []) (hb : badB r = false) : Stands b (l ++ [entOf r]) (restOf r) := by
  unfold Stands at h ⊢
  rw [h, dec_cons r hr, hb, if_neg (by decide)]
  cases dec (restOf r) with
  | none => rfl
  | some m => simp
theorem stands_bad {b r : List UInt8} {l : List E} (h : Stands b l r) (hr : r ≠ []) (hb : badB r = true) : decOk b = false ∧ decL b = [] := by
  unfold Stands at h
  rw [dec_cons r hr, hb, if_pos rfl] at h
  unfold decOk decL
  rw [h]
  exact ⟨rfl, rfl⟩
theorem stands_end {b : List UInt8} {l : List E} (h : Stands b l []) : decOk b = mayB l ∧ decL b = if mayB l then l else [] := by
  unfold Stands at h
  rw [dec_nil] at h
  unfold decOk decL
  rw [h]
  simp
theorem stands_many {b r : List UInt8} {l : List E} (h : Stands b l r) (hr : r ≠ []) (hl : 30 ≤ l.length) : decOk b = false ∧ decL b = [] := by
  cases hb : badB r with
  | true => exact stands_bad h hr hb
  | false =>
    have h2 := stands_step h hr hb
    unfold Stands at h2
    unfold decOk decL
    rw [h2]
    cases hd : dec (restOf r) with
    | none => exact ⟨rfl, rfl⟩
    | some m =>
      have hm : mayB ((l ++ [entOf r]) ++ m) = false := by
        unfold mayB
        rw [decide_eq_false (by simp; omega), Bool.false_and]
      simp only [Option.map_some]
      rw [hm]
      exact ⟨rfl, rfl⟩
theorem isN_short {n : List UInt8} (h : Tl.isN n = true) : 1 ≤ n.length ∧ n.length ≤ 24 := by
  unfold Tl.isN at h
  simp at h
  omega
theorem ok_parts {y : E} (h : okB y = true) : (1 ≤ y.n.length ∧ y.n.length ≤ 24) ∧ 1 ≤ y.i ∧ y.i ≤ 39 ∧ (y.t = 1 ∨ y.t = 2) := by
  unfold okB inB at h
  rw [Bool.and_eq_true, decide_eq_true_iff] at h
  exact ⟨isN_short h.1, h.2⟩
theorem u8_nat (n : Nat) (h : n < 256) : (UInt8.ofNat n).toNat = n := by rw [UInt8.toNat_ofNat']; omega
theorem dec_enc : ∀ l : List E, (∀ y ∈ l, okB y = true) → dec (enc l) = some l
  | [], _ => rfl
  | y :: l, h => by
    have hy := ok_parts (h y List.mem_cons_self)
    have e : enc (y :: l) = encE y ++ enc l := by unfold enc; rw [List.flatMap_cons]
    have hne : enc (y :: l) ≠ [] := by rw [e]; unfold encE; simp
    have h2 : ((enc (y :: l)).getD 2 0).toNat = y.n.length := by rw [e]; exact u8_nat y.n.length (by omega)
    have h0 : ((enc (y :: l)).getD 0 0).toNat = y.i.toNat := by rw [e]; exact u8_nat y.i.toNat (by omega)
    have h1 : ((enc (y :: l)).getD 1 0).toNat = y.t.toNat := by rw [e]; exact u8_nat y.t.toNat (by omega)
    have hd : (enc (y :: l)).drop 3 = y.n ++ enc l := by rw [e]; unfold encE; simp
    have hb : badB (enc (y :: l)) = false := by
      unfold badB
      rw [h2, hd, decide_eq_false (by rw [e]; unfold encE; simp), decide_eq_false (by simp)]; rfl
    have hr : restOf (enc (y :: l)) = enc l := by unfold restOf; rw [h2, hd, List.drop_left]
    have he : entOf (enc (y :: l)) = y := by
      unfold entOf
      rw [h2, hd, List.take_left, h0, h1]
      obtain ⟨n, i, t⟩ := y
      simp only at hy ⊢
      rw [E.mk.injEq]
      refine ⟨rfl, by omega, by omega⟩
    rw [dec_cons _ hne, hb, if_neg (by decide), hr, he, dec_enc l (fun z hz => h z (List.mem_cons_of_mem _ hz))]
    rfl
theorem enc_inj {l m : List E} (hl : mayB l = true) (hm : mayB m = true) : enc l = enc m ↔ l = m := by
  constructor
  · intro h
    have h1 := dec_enc l ((may_iff l).1 hl).2.1
    have h2 := dec_enc m ((may_iff m).1 hm).2.1
    rw [h, h2] at h1
    injection h1 with h1
    exact h1.symm
  · rintro rfl; rfl
theorem dec_back {l : List E} (hl : mayB l = true) : decOk (enc l) = true ∧ decL (enc l) = l := by
  have h1 := dec_enc l ((may_iff l).1 hl).2.1
  unfold decOk decL
  rw [h1]
  simp only [hl, if_true, and_self]
end Go.Proofs.Ytahkhieoabbaaaa.Et
