/-
  Plain Lean: entries in order: where a name stands; what is found, added, taken away. No program. By an AI agent.
-/
import Derived.Test.YtahkhieoabbaaaaEntP
namespace Go.Proofs.Ytahkhieoabbaaaa.Et
open Go

theorem lt_irr (y : E) : ¬ lt y y := fun h => by
  unfold lt at h
  rw [ord_self] at h; omega
theorem lt_asym {y z : E} (h : lt y z) (k : lt z y) : False := lt_irr y (lt_tr h k)
theorem eq_name {l : List E} (hl : l.Pairwise lt) {y z : E} (hy : y ∈ l) (hz : z ∈ l) (h : y.n = z.n) : y = z := by
  obtain ⟨i, hi, rfl⟩ := List.mem_iff_getElem.1 hy
  obtain ⟨j, hj, rfl⟩ := List.mem_iff_getElem.1 hz
  have key := List.pairwise_iff_getElem.1 hl
  rcases Nat.lt_trichotomy i j with hij | rfl | hij
  · have := key i j hi hj hij
    unfold lt at this
    rw [h, ord_self] at this; omega
  · rfl
  · have := key j i hj hi hij
    unfold lt at this
    rw [h, ord_self] at this; omega
theorem ext_sorted : ∀ (l m : List E), l.Pairwise lt → m.Pairwise lt → (∀ y, y ∈ l ↔ y ∈ m) → l = m
  | [], [], _, _, _ => rfl
  | [], z :: m, _, _, h => absurd ((h z).2 List.mem_cons_self) (by simp)
  | y :: l, [], _, _, h => absurd ((h y).1 List.mem_cons_self) (by simp)
  | y :: l, z :: m, hl, hm, h => by
    rw [List.pairwise_cons] at hl hm
    have e : y = z := by
      by_cases e : y = z
      · exact e
      · exfalso
        rcases List.mem_cons.1 ((h y).1 List.mem_cons_self) with h1 | h1
        · exact e h1
        · rcases List.mem_cons.1 ((h z).2 List.mem_cons_self) with h2 | h2
          · exact e h2.symm
          · exact lt_asym (hl.1 z h2) (hm.1 y h1)
    subst e
    rw [ext_sorted l m hl.2 hm.2 fun w => ?_]
    constructor
    · intro hw
      rcases List.mem_cons.1 ((h w).1 (List.mem_cons_of_mem _ hw)) with h1 | h1
      · subst h1; exact absurd (hl.1 w hw) (lt_irr w)
      · exact h1
    · intro hw
      rcases List.mem_cons.1 ((h w).2 (List.mem_cons_of_mem _ hw)) with h1 | h1
      · subst h1; exact absurd (hm.1 w hw) (lt_irr w)
      · exact h1

/-- Ahead of a name. -/
def ahd (nm : List UInt8) (y : E) : Bool := Tl.ord y.n nm == -1
def pos (l : List E) (nm : List UInt8) : Nat := (l.filter (ahd nm)).length
theorem split_at : ∀ (l : List E) (nm : List UInt8), l.Pairwise lt → l = l.filter (ahd nm) ++ l.filter (fun y => !ahd nm y)
  | [], _, _ => rfl
  | y :: l, nm, h => by
    rw [List.pairwise_cons] at h
    have ih := split_at l nm h.2
    cases hy : ahd nm y with
    | true =>
      rw [List.filter_cons_of_pos hy, List.filter_cons_of_neg (by simp [hy]), List.cons_append, ← ih]
    | false =>
      have hn : l.filter (ahd nm) = [] := by
        rw [List.filter_eq_nil_iff]
        intro z hz hzn
        unfold ahd at hy hzn
        have h1 := h.1 z hz
        unfold lt at h1
        have := ord_tr h1 (beq_iff_eq.1 hzn)
        rw [this] at hy
        cases hy
      rw [List.filter_cons_of_neg (by simp [hy]), List.filter_cons_of_pos (by simp [hy]), hn, List.nil_append]
      rw [hn, List.nil_append] at ih
      rw [← ih]
theorem take_pos (l : List E) (nm : List UInt8) (h : l.Pairwise lt) : l.take (pos l nm) = l.filter (ahd nm) := by
  have hs := split_at l nm h
  unfold pos
  generalize l.filter (ahd nm) = a at *
  rw [hs, List.take_left]
theorem drop_pos (l : List E) (nm : List UInt8) (h : l.Pairwise lt) : l.drop (pos l nm) = l.filter (fun y => !ahd nm y) := by
  have hs := split_at l nm h
  unfold pos
  generalize l.filter (ahd nm) = a at *
  generalize l.filter (fun y => !ahd nm y) = b at *
  rw [hs, List.drop_left]
theorem pos_le (l : List E) (nm : List UInt8) : pos l nm ≤ l.length := List.length_filter_le _ _
theorem pos_lt {l : List E} {nm : List UInt8} (h : l.Pairwise lt) {k : Nat} (hk : k < l.length) : Tl.ord (at_ l k).n nm = -1 ↔ k < pos l nm := by
  rw [at_get l k hk]
  constructor
  · intro ho
    rcases Nat.lt_or_ge k (pos l nm) with h1 | h1
    · exact h1
    · exfalso
      have : l[k] ∈ l.drop (pos l nm) := by
        rw [List.mem_iff_getElem]
        exact ⟨k - pos l nm, by rw [List.length_drop]; omega, by rw [List.getElem_drop]; congr 1; omega⟩
      rw [drop_pos l nm h] at this
      have := (List.mem_filter.1 this).2
      unfold ahd at this
      rw [ho] at this
      simp at this
  · intro h1
    have : l[k] ∈ l.take (pos l nm) := by
      rw [List.mem_iff_getElem]
      exact ⟨k, by rw [List.length_take]; omega, by rw [List.getElem_take]⟩
    rw [take_pos l nm h] at this
    have := (List.mem_filter.1 this).2
    unfold ahd at this
    exact beq_iff_eq.1 this

def hasN (l : List E) (nm : List UInt8) : Bool := l.any fun y => y.n == nm
theorem hasN_iff (l : List E) (nm : List UInt8) : hasN l nm = true ↔ ∃ y ∈ l, y.n = nm := by
  unfold hasN
  rw [List.any_eq_true]
  simp only [beq_iff_eq]
theorem has_pos {l : List E} {nm : List UInt8} (h : l.Pairwise lt) : hasN l nm = true ↔ pos l nm < l.length ∧ (at_ l (pos l nm)).n = nm := by
  rw [hasN_iff]
  constructor
  · rintro ⟨y, hy, rfl⟩
    obtain ⟨k, hk, rfl⟩ := List.mem_iff_getElem.1 hy
    have h1 : ¬ k < pos l l[k].n := fun hk1 => by
      have := (pos_lt h hk).2 hk1
      rw [at_get l k hk, ord_self] at this; omega
    have h2 : ¬ pos l l[k].n < k := fun hk1 => by
      have h3 := List.pairwise_iff_getElem.1 h (pos l l[k].n) k (by omega) hk hk1
      unfold lt at h3
      rw [← at_get l _ (by omega)] at h3
      have := (pos_lt h (show pos l l[k].n < l.length by omega)).1 h3
      omega
    have h3 : pos l l[k].n = k := by omega
    rw [h3, at_get l k hk]
    exact ⟨hk, rfl⟩
  · rintro ⟨h1, h2⟩
    rw [at_get l _ h1] at h2
    exact ⟨_, List.getElem_mem h1, h2⟩
/-- What search answers; find, add and take. -/
def srchE (l : List E) (nm : List UInt8) : Int := if mayB l then (if Tl.isN nm then (if hasN l nm then 0 else 6) else 11) else 1
def findL (l : List E) (nm : List UInt8) : E := if srchE l nm = 0 then at_ l (pos l nm) else E.zero
def addE (l : List E) (x : E) : Int := if mayB l then (if Tl.isN x.n then (if inB x then (if hasN l x.n then 7 else if 30 ≤ l.length then 8 else 0) else 1) else 11) else 1
def addL (l : List E) (x : E) : List E := if addE l x = 0 then l.take (pos l x.n) ++ (x :: l.drop (pos l x.n)) else []
def takeL (l : List E) (nm : List UInt8) : List E := if srchE l nm = 0 then l.take (pos l nm) ++ l.drop (pos l nm + 1) else []
theorem srch_zero {l : List E} {nm : List UInt8} (h : srchE l nm = 0) : mayB l = true ∧ Tl.isN nm = true ∧ hasN l nm = true := by
  unfold srchE at h
  cases h1 : mayB l <;> cases h2 : Tl.isN nm <;> cases h3 : hasN l nm <;> simp [h1, h2, h3] at h ⊢
theorem add_zero {l : List E} {x : E} (h : addE l x = 0) : mayB l = true ∧ Tl.isN x.n = true ∧ inB x = true ∧ hasN l x.n = false ∧ l.length < 30 := by
  unfold addE at h
  cases h1 : mayB l <;> cases h2 : Tl.isN x.n <;> cases h3 : inB x <;> cases h4 : hasN l x.n <;> simp [h1, h2, h3, h4] at h ⊢
  exact h
theorem may_pw {l : List E} (h : mayB l = true) : l.Pairwise lt := ((may_iff l).1 h).2.2
theorem find_mem {l : List E} {nm : List UInt8} (h : srchE l nm = 0) : findL l nm ∈ l ∧ (findL l nm).n = nm := by
  obtain ⟨h1, h2, h3⟩ := srch_zero h
  obtain ⟨h4, h5⟩ := (has_pos (may_pw h1)).1 h3
  unfold findL
  rw [if_pos h]
  exact ⟨by rw [at_get l _ h4]; exact List.getElem_mem h4, h5⟩
theorem find_eq {l : List E} {y : E} (hm : mayB l = true) (hy : y ∈ l) : srchE l y.n = 0 ∧ findL l y.n = y := by
  have hs : srchE l y.n = 0 := by
    unfold srchE
    have h1 := ((may_iff l).1 hm).2.1 y hy
    unfold okB at h1
    rw [Bool.and_eq_true] at h1
    rw [hm, h1.1, (hasN_iff l y.n).2 ⟨y, hy, rfl⟩]; rfl
  obtain ⟨h1, h2⟩ := find_mem hs
  exact ⟨hs, eq_name (may_pw hm) h1 hy h2⟩
theorem add_filter {l : List E} {x : E} (h : addE l x = 0) : addL l x = l.filter (ahd x.n) ++ (x :: l.filter (fun y => !ahd x.n y)) := by
  unfold addL
  rw [if_pos h, take_pos l x.n (may_pw (add_zero h).1), drop_pos l x.n (may_pw (add_zero h).1)]
theorem add_mem {l : List E} {x : E} (h : addE l x = 0) (y : E) : y ∈ addL l x ↔ y = x ∨ y ∈ l := by
  rw [add_filter h, List.mem_append, List.mem_cons, List.mem_filter, List.mem_filter]
  cases ahd x.n y <;> simp [or_comm]
theorem add_pw {l : List E} {x : E} (h : addE l x = 0) : (addL l x).Pairwise lt := by
  obtain ⟨h1, h2, h3, h4, h5⟩ := add_zero h
  have hp := may_pw h1
  rw [add_filter h, List.pairwise_append]
  have hb : ∀ z ∈ l.filter (fun y => !ahd x.n y), lt x z := by
    intro z hz
    obtain ⟨hz1, hz2⟩ := List.mem_filter.1 hz
    unfold ahd at hz2
    unfold lt
    have hs := ord_swap x.n z.n
    rcases ord_bd z.n x.n with h6 | h6 | h6
    · rw [h6] at hz2; simp at hz2
    · exfalso
      have e := (Tl.ord_zero _ _).1 h6
      have := (hasN_iff l x.n).2 ⟨z, hz1, e⟩
      rw [h4] at this; cases this
    · omega
  refine ⟨hp.filter _, ?_, ?_⟩
  · rw [List.pairwise_cons]
    exact ⟨hb, hp.filter _⟩
  · intro y hy z hz
    have hyx : lt y x := by
      have := (List.mem_filter.1 hy).2
      unfold ahd at this
      exact beq_iff_eq.1 this
    rcases List.mem_cons.1 hz with rfl | hz
    · exact hyx
    · exact lt_tr hyx (hb z hz)
theorem add_len {l : List E} {x : E} (h : addE l x = 0) : (addL l x).length = l.length + 1 := by
  unfold addL
  rw [if_pos h, List.length_append, List.length_cons, List.length_take, List.length_drop]
  have := pos_le l x.n
  omega
theorem add_may {l : List E} {x : E} (h : addE l x = 0) : mayB (addL l x) = true := by
  obtain ⟨h1, h2, h3, h4, h5⟩ := add_zero h
  rw [may_iff]
  refine ⟨by rw [add_len h]; omega, fun y hy => ?_, add_pw h⟩
  rcases (add_mem h y).1 hy with rfl | hy
  · unfold okB; rw [h2, h3]; rfl
  · exact ((may_iff l).1 h1).2.1 y hy
theorem take_filter {l : List E} {nm : List UInt8} (h : srchE l nm = 0) : takeL l nm = l.filter (fun y => y.n != nm) := by
  obtain ⟨h1, h2, h3⟩ := srch_zero h
  have hp := may_pw h1
  obtain ⟨h4, h5⟩ := (has_pos hp).1 h3
  unfold takeL
  rw [if_pos h]
  have hl : l = l.take (pos l nm) ++ (l[pos l nm] :: l.drop (pos l nm + 1)) := by rw [← List.drop_eq_getElem_cons h4, List.take_append_drop]
  rw [at_get l _ h4] at h5
  have hpw := hp
  rw [hl, List.pairwise_append, List.pairwise_cons] at hpw
  obtain ⟨p1, ⟨p2, p3⟩, p4⟩ := hpw
  conv => rhs; rw [hl]
  rw [List.filter_append, List.filter_cons_of_neg (by rw [h5]; simp)]
  rw [List.filter_eq_self.2, List.filter_eq_self.2]
  · intro y hy
    have := p2 y hy
    unfold lt at this
    rw [bne_iff_ne]
    intro e
    rw [h5, e, ord_self] at this; omega
  · intro y hy
    have := p4 y hy _ List.mem_cons_self
    unfold lt at this
    rw [bne_iff_ne]
    intro e
    rw [h5, e, ord_self] at this; omega
theorem take_mem {l : List E} {nm : List UInt8} (h : srchE l nm = 0) (y : E) : y ∈ takeL l nm ↔ y ∈ l ∧ y.n ≠ nm := by
  rw [take_filter h, List.mem_filter, bne_iff_ne]
theorem take_pw {l : List E} {nm : List UInt8} (h : srchE l nm = 0) : (takeL l nm).Pairwise lt := by
  rw [take_filter h]; exact (may_pw (srch_zero h).1).filter _
theorem take_len {l : List E} {nm : List UInt8} (h : srchE l nm = 0) : (takeL l nm).length + 1 = l.length := by
  obtain ⟨h1, h2, h3⟩ := srch_zero h
  have h4 := ((has_pos (may_pw h1)).1 h3).1
  unfold takeL
  rw [if_pos h, List.length_append, List.length_take, List.length_drop]
  omega
theorem take_may {l : List E} {nm : List UInt8} (h : srchE l nm = 0) : mayB (takeL l nm) = true := by
  obtain ⟨h1, h2, h3⟩ := srch_zero h
  have hm := (may_iff l).1 h1
  rw [may_iff]
  refine ⟨by have := take_len h; omega, fun y hy => hm.2.1 y ((take_mem h y).1 hy).1, take_pw h⟩
theorem take_gone {l : List E} {nm : List UInt8} (h : srchE l nm = 0) : srchE (takeL l nm) nm = 6 := by
  have hn : hasN (takeL l nm) nm = false := by
    cases hh : hasN (takeL l nm) nm with
    | false => rfl
    | true =>
      obtain ⟨y, hy, he⟩ := (hasN_iff _ _).1 hh
      exact absurd he ((take_mem h y).1 hy).2
  unfold srchE
  rw [take_may h, (srch_zero h).2.1, hn]; rfl
theorem add_take {l : List E} {x : E} (h : addE l x = 0) : takeL (addL l x) x.n = l ∧ srchE (addL l x) x.n = 0 ∧ findL (addL l x) x.n = x := by
  obtain ⟨h1, h2, h3, h4, h5⟩ := add_zero h
  have hx := find_eq (add_may h) ((add_mem h x).2 (.inl rfl))
  refine ⟨ext_sorted _ _ (take_pw hx.1) (may_pw h1) fun y => ?_, hx.1, hx.2⟩
  rw [take_mem hx.1, add_mem h]
  constructor
  · rintro ⟨rfl | hy, hn⟩
    · exact absurd rfl hn
    · exact hy
  · intro hy
    refine ⟨.inr hy, fun e => ?_⟩
    have := (hasN_iff l x.n).2 ⟨y, hy, e⟩
    rw [h4] at this; cases this
theorem add_others {l : List E} {x : E} (h : addE l x = 0) (y : E) (hy : y ∈ l) : srchE (addL l x) y.n = 0 ∧ findL (addL l x) y.n = y := find_eq (add_may h) ((add_mem h y).2 (.inr hy))
end Go.Proofs.Ytahkhieoabbaaaa.Et
