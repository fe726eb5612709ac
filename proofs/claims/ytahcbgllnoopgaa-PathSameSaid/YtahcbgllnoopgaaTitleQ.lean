/-
  Plain Lean: what the functions of title answer, on the runes of a text: names, heads, folds, order. By an AI agent.
-/
import Derived.Test.YtahcbgllnoopgaaTitleP
import Derived.WalkKit
namespace Go.Proofs.Ytahcbgllnoopgaa.Tl
open Go

/-! ### what the functions answer -/
def sgn (x : It) : Bool := !x.odd && decide (32 ≤ x.v) && x.v != 127 && x.v != 47
def cntR (l : List UInt8) : Nat := ((runes l).filter fun x => !x.odd).length
def cntO (l : List UInt8) : Nat := ((runes l).filter fun x => x.odd).length
def isN (l : List UInt8) : Bool := (runes l).all sgn && decide (1 ≤ l.length) && decide (l.length ≤ 24) && decide ((runes l).length ≤ 16) && l != [46] && l != [46, 46]
def headN (l : List UInt8) (n : Int) : List UInt8 := ((runes l).take n.toNat).flatMap It.s
def foldc (c : UInt8) : UInt8 := if 65 ≤ c.toNat ∧ c.toNat ≤ 90 then c + 32 else c
def fold (l : List UInt8) : List UInt8 := l.map foldc
def cutF : List It → List UInt8 → Nat → List UInt8
  | [], out, _ => out
  | x :: xs, out, n => if sgn x then (if n = 16 ∨ 24 < out.length + x.s.length then out else cutF xs (out ++ x.s) (n + 1)) else cutF xs out n
def cut (l : List UInt8) : List UInt8 := cutF (runes l) [] 0
def fit (l : List UInt8) : List UInt8 := if isN (cut l) then cut l else cut (120 :: cut l)
def cmpI : List Int → List Int → Int
  | [], [] => 0
  | [], _ :: _ => -1
  | _ :: _, [] => 1
  | x :: xs, y :: ys => if x < y then -1 else if y < x then 1 else cmpI xs ys
def nums (l : List UInt8) : List Int := l.map fun c => (c.toNat : Int)
def vals (l : List UInt8) : List Int := (runes l).map It.v
def ord (a b : List UInt8) : Int := cmpI (nums a) (nums b)

theorem cnt_all (l : List UInt8) : cntR l + cntO l = (runes l).length := by
  unfold cntR cntO
  generalize runes l = xs
  induction xs with
  | nil => rfl
  | cons x xs ih =>
    cases h : x.odd <;> simp [h] <;> omega

/-! ### decoding, of part of a text -/
set_option maxRecDepth 100000 in
set_option maxHeartbeats 4000000 in
theorem dec_take (n k b0 b1 b2 b3 : Nat) (hn : 1 ≤ n) (hk : 1 ≤ k) (hc : (Lib.decodeN n b0 b1 b2 b3).2 ≤ k) :
    Lib.decodeN (min k n) b0 (if 1 < k then b1 else 0) (if 2 < k then b2 else 0) (if 3 < k then b3 else 0) = Lib.decodeN n b0 b1 b2 b3 := by
  have c1 : (1 < min k n) = (1 < k ∧ 1 < n) := propext (by omega)
  have c2 : (2 < min k n) = (2 < k ∧ 2 < n) := propext (by omega)
  have c3 : (3 < min k n) = (3 < k ∧ 3 < n) := propext (by omega)
  revert hc
  unfold Lib.decodeN
  simp only [c1, c2, c3]
  rcases (by omega : k = 1 ∨ k = 2 ∨ k = 3 ∨ 4 ≤ k) with rfl | rfl | rfl | h4
  · simp only [Nat.lt_irrefl, if_false, Nat.zero_div, show ¬ (2 < 1) by decide, show ¬ (3 < 1) by decide, false_and, and_false]
    repeat' split
    all_goals first | (intro hc; rfl) | (intro hc; exfalso; simp only at hc; omega) | (intro hc; simp only at hc; omega)
  · simp only [Nat.lt_irrefl, if_false, Nat.zero_div, if_true, show (1 < 2) by decide, show ¬ (3 < 2) by decide, false_and, and_false, true_and]
    repeat' split
    all_goals first | (intro hc; rfl) | (intro hc; exfalso; simp only at hc; omega) | (intro hc; simp only at hc; omega)
  · simp only [Nat.lt_irrefl, if_false, Nat.zero_div, if_true, show (1 < 3) by decide, show (2 < 3) by decide, false_and, and_false, true_and]
    repeat' split
    all_goals first | (intro hc; rfl) | (intro hc; exfalso; simp only at hc; omega) | (intro hc; simp only at hc; omega)
  · simp only [show 1 < k by omega, show 2 < k by omega, show 3 < k by omega, true_and, if_true]
    intro _; trivial
theorem getD_take (l : List UInt8) (k i : Nat) : ((l.take k).getD i 0).toNat = if i < k then (l.getD i 0).toNat else 0 := by
  rw [List.getD_eq_getElem?_getD, List.getElem?_take]
  split
  · rw [List.getD_eq_getElem?_getD]
  · rfl
theorem rn_take (l : List UInt8) (k : Nat) (hl : l ≠ []) (hk : 1 ≤ k) (hc : (rn l).2 ≤ k) : rn (l.take k) = rn l := by
  have hn : 1 ≤ l.length := by cases l with | nil => exact absurd rfl hl | cons a t => simp
  have := dec_take l.length k (l.getD 0 0).toNat (l.getD 1 0).toNat (l.getD 2 0).toNat (l.getD 3 0).toNat hn hk hc
  unfold rn
  rw [getD_take, getD_take, getD_take, getD_take, List.length_take, if_pos (show 0 < k by omega)]
  exact this
theorem it_take (l : List UInt8) (k : Nat) (hl : l ≠ []) (hk : (it l).s.length ≤ k) : it (l.take k) = it l := by
  obtain ⟨f1, f2, f3, -⟩ := rn_facts l hl
  have hil := it_len l hl
  have hc : (rn l).2 ≤ k := by
    have hk' := hk
    unfold it at hk
    by_cases ho : odd l = true
    · have : (rn l).2 = 1 := by unfold odd at ho; simp at ho; exact ho.2
      omega
    · rw [if_neg ho] at hk
      simp only [List.length_take] at hk
      omega
  have := rn_take l k hl (by omega) hc
  unfold it odd
  rw [this, List.take_take, List.take_take, Nat.min_eq_left hc, Nat.min_eq_left (by omega)]
set_option maxRecDepth 100000 in
set_option maxHeartbeats 4000000 in
theorem dec_app (n m b0 b1 b2 b3 c1 c2 c3 : Nat) (hn : 1 ≤ n) (hnm : n ≤ m) (h1 : 1 < n → c1 = b1) (h2 : 2 < n → c2 = b2) (h3 : 3 < n → c3 = b3) (hc : Lib.decodeN n b0 b1 b2 b3 ≠ (65533, 1)) :
    Lib.decodeN m b0 c1 c2 c3 = Lib.decodeN n b0 b1 b2 b3 := by
  revert hc
  unfold Lib.decodeN
  rcases (by omega : n = 1 ∨ n = 2 ∨ n = 3 ∨ 4 ≤ n) with rfl | rfl | rfl | h4
  · simp only [Nat.lt_irrefl, show ¬ (2 < 1) by decide, show ¬ (3 < 1) by decide, false_and, and_false, if_false]
    intro hc
    split
    · rfl
    · rename_i h; rw [if_neg h] at hc; exact absurd rfl hc
  · obtain rfl := h1 (by decide)
    simp only [Nat.lt_irrefl, show (1 < 2) by decide, show ¬ (3 < 2) by decide, false_and, and_false, if_false, true_and, show 1 < m by omega]
    intro hc
    by_cases g0 : b0 < 128
    · rw [if_pos g0, if_pos g0]
    · rw [if_neg g0] at hc ⊢
      rw [if_neg g0]
      by_cases g1 : b0 / 32 = 6 ∧ c1 / 64 = 2
      · rw [if_pos g1, if_pos g1]
      · rw [if_neg g1] at hc; exact absurd rfl hc
  · obtain rfl := h1 (by decide)
    obtain rfl := h2 (by decide)
    simp only [Nat.lt_irrefl, show (1 < 3) by decide, show (2 < 3) by decide, false_and, and_false, if_false, true_and, show 1 < m by omega, show 2 < m by omega]
    intro hc
    by_cases g0 : b0 < 128
    · rw [if_pos g0, if_pos g0]
    · rw [if_neg g0] at hc ⊢
      rw [if_neg g0]
      by_cases g1 : b0 / 32 = 6 ∧ c1 / 64 = 2
      · rw [if_pos g1, if_pos g1]
      · rw [if_neg g1] at hc ⊢
        rw [if_neg g1]
        by_cases g2 : b0 / 16 = 14 ∧ c1 / 64 = 2 ∧ c2 / 64 = 2
        · rw [if_pos g2, if_pos g2]
        · rw [if_neg g2] at hc; exact absurd rfl hc
  · obtain rfl := h1 (by omega)
    obtain rfl := h2 (by omega)
    obtain rfl := h3 (by omega)
    simp only [show 1 < m by omega, show 2 < m by omega, show 3 < m by omega, show 1 < n by omega, show 2 < n by omega, show 3 < n by omega]
    intro _; trivial
theorem getD_app (l m : List UInt8) (i : Nat) (h : i < l.length) : ((l ++ m).getD i 0).toNat = (l.getD i 0).toNat := by
  rw [List.getD_eq_getElem?_getD, List.getElem?_append_left h, List.getD_eq_getElem?_getD]
theorem it_app (l m : List UInt8) (hl : l ≠ []) (ho : odd l = false) : it (l ++ m) = it l := by
  have hn : 1 ≤ l.length := by cases l with | nil => exact absurd rfl hl | cons a t => simp
  have e : rn (l ++ m) = rn l := by
    unfold rn
    rw [getD_app l m 0 (by omega)]
    refine dec_app l.length (l ++ m).length _ _ _ _ _ _ _ hn (by simp) (fun h => getD_app l m 1 h) (fun h => getD_app l m 2 h) (fun h => getD_app l m 3 h) (fun h => ?_)
    have : rn l = (65533, 1) := h
    unfold odd at ho
    rw [this] at ho
    cases ho
  obtain ⟨f1, f2, f3, -⟩ := rn_facts l hl
  unfold it
  have ho2 : odd (l ++ m) = false := by unfold odd at ho ⊢; rw [e]; exact ho
  rw [ho, ho2]
  simp only [Bool.false_eq_true, if_false]
  rw [e, List.take_append_of_le_length f3]
theorem it_odd (l : List UInt8) : (it l).odd = odd l := by unfold it; split <;> simp_all

/-- A rune that is one by itself. -/
def good (x : It) : Prop := x.odd = false ∧ x.s ≠ [] ∧ it x.s = x
theorem good_it (l : List UInt8) (hl : l ≠ []) (ho : (it l).odd = false) : good (it l) := by
  have h := it_len l hl
  refine ⟨ho, fun e => by rw [e] at h; simp at h, ?_⟩
  conv => lhs; rw [h.2.2.2]
  exact it_take l _ hl (Nat.le_refl _)
theorem runes_good : ∀ (n : Nat) (l : List UInt8), l.length ≤ n → ∀ x ∈ runes l, x.odd = false → good x := by
  intro n
  induction n with
  | zero => intro l h x hx; have : l = [] := List.eq_nil_of_length_eq_zero (by omega); subst this; simp [runes_nil] at hx
  | succ n ih =>
    intro l h x hx ho
    by_cases h0 : l = []
    · subst h0; simp [runes_nil] at hx
    · have := it_len l h0
      rw [runes_cons l h0] at hx
      rcases List.mem_cons.1 hx with rfl | hx
      · exact good_it l h0 ho
      · exact ih _ (by rw [List.length_drop]; omega) x hx ho
theorem runes_of_good (xs : List It) (h : ∀ x ∈ xs, good x) : runes (xs.flatMap It.s) = xs := by
  induction xs with
  | nil => rfl
  | cons x xs ih =>
    obtain ⟨h1, h2, h3⟩ := h x List.mem_cons_self
    have hne : x.s ++ xs.flatMap It.s ≠ [] := by simp [h2]
    have hi : it (x.s ++ xs.flatMap It.s) = x := by
      rw [it_app _ _ h2 (by rw [← it_odd, h3]; exact h1), h3]
    rw [List.flatMap_cons, runes_cons _ hne, hi, List.drop_left, ih fun y hy => h y (List.mem_cons_of_mem _ hy)]
theorem good_sgn (l : List UInt8) : ∀ x ∈ runes l, sgn x = true → good x := by
  intro x hx hs
  refine runes_good _ l (Nat.le_refl _) x hx ?_
  unfold sgn at hs
  simp only [Bool.and_eq_true, Bool.not_eq_true'] at hs
  exact hs.1.1.1

theorem take_flat (l : List UInt8) (n : Nat) : ∃ j, ((runes l).take n).flatMap It.s = l.take j := by
  refine ⟨(((runes l).take n).flatMap It.s).length, ?_⟩
  have h := flat l
  conv at h => lhs; rw [← List.take_append_drop n (runes l), List.flatMap_append]
  have h2 := congrArg (List.take (((runes l).take n).flatMap It.s).length) h
  rw [List.take_left] at h2
  exact h2
theorem runes_take : ∀ (k : Nat) (l : List UInt8), l.length ≤ k → ∀ n, runes (((runes l).take n).flatMap It.s) = (runes l).take n := by
  intro k
  induction k with
  | zero => intro l h n; have : l = [] := List.eq_nil_of_length_eq_zero (by omega); subst this; simp [runes_nil]
  | succ k ih =>
    intro l h n
    by_cases h0 : l = []
    · subst h0; simp [runes_nil]
    · have hil := it_len l h0
      cases n with
      | zero => simp [runes_nil]
      | succ n =>
        have ih' := ih (l.drop (it l).s.length) (by rw [List.length_drop]; omega) n
        obtain ⟨j, hj⟩ := take_flat (l.drop (it l).s.length) n
        rw [hj] at ih'
        rw [runes_cons l h0, List.take_succ_cons, List.flatMap_cons, hj]
        have e : (it l).s ++ (l.drop (it l).s.length).take j = l.take ((it l).s.length + j) := by
          conv => lhs; lhs; rw [hil.2.2.2]
          rw [List.take_add]
        rw [e]
        have hit : it (l.take ((it l).s.length + j)) = it l := it_take l _ h0 (by omega)
        have hne : l.take ((it l).s.length + j) ≠ [] := by
          intro h'
          have := congrArg List.length h'
          rw [List.length_take, List.length_nil] at this
          omega
        rw [runes_cons _ hne, hit, ← e, List.drop_left, ih']
theorem runes_app (s t : List UInt8) (h : ∀ x ∈ runes s, x.odd = false) : runes (s ++ t) = runes s ++ runes t := by
  have key : ∀ (k : Nat) (s : List UInt8), s.length ≤ k → (∀ x ∈ runes s, x.odd = false) → runes (s ++ t) = runes s ++ runes t := by
    intro k
    induction k with
    | zero => intro s hs _; have : s = [] := List.eq_nil_of_length_eq_zero (by omega); subst this; simp [runes_nil]
    | succ k ih =>
      intro s hs hod
      by_cases h0 : s = []
      · subst h0; simp [runes_nil]
      · have hil := it_len s h0
        have hc := runes_cons s h0
        rw [hc] at hod
        have ho : odd s = false := by rw [← it_odd]; exact hod _ List.mem_cons_self
        have hne : s ++ t ≠ [] := by simp [h0]
        rw [runes_cons _ hne, it_app s t h0 ho, List.drop_append_of_le_length hil.2.1, ih _ (by rw [List.length_drop]; omega) (fun x hx => hod x (List.mem_cons_of_mem _ hx)), hc, List.cons_append]
  exact key _ s (Nat.le_refl _) h

/-! ### cut and fit -/
theorem cutF_spec : ∀ (xs : List It) (out : List UInt8) (n : Nat), (∀ x ∈ xs, sgn x = true → good x) → n ≤ 16 → out.length ≤ 24 →
    ∃ ys : List It, cutF xs out n = out ++ ys.flatMap It.s ∧ (∀ y ∈ ys, sgn y = true ∧ good y) ∧ n + ys.length ≤ 16 ∧ (cutF xs out n).length ≤ 24 := by
  intro xs
  induction xs with
  | nil => intro out n _ h1 h2; exact ⟨[], by simp [cutF], by simp, by simpa using h1, by simpa [cutF] using h2⟩
  | cons x xs ih =>
    intro out n hg h1 h2
    have hg' : ∀ y ∈ xs, sgn y = true → good y := fun y hy => hg y (List.mem_cons_of_mem _ hy)
    unfold cutF
    by_cases hs : sgn x = true
    · rw [if_pos hs]
      by_cases hf : n = 16 ∨ 24 < out.length + x.s.length
      · rw [if_pos hf]
        exact ⟨[], by simp, by simp, by simpa using h1, h2⟩
      · rw [if_neg hf]
        obtain ⟨ys, e, q1, q2, q3⟩ := ih (out ++ x.s) (n + 1) hg' (by omega) (by rw [List.length_append]; omega)
        refine ⟨x :: ys, by rw [e]; simp, ?_, by simp only [List.length_cons]; omega, q3⟩
        intro y hy
        rcases List.mem_cons.1 hy with rfl | hy
        · exact ⟨hs, hg _ List.mem_cons_self hs⟩
        · exact q1 y hy
    · rw [if_neg hs]
      exact ih out n hg' h1 h2
theorem cut_spec (l : List UInt8) : (runes (cut l)).all sgn = true ∧ (runes (cut l)).length ≤ 16 ∧ (cut l).length ≤ 24 := by
  obtain ⟨ys, e, q1, q2, q3⟩ := cutF_spec (runes l) [] 0 (good_sgn l) (by omega) (by simp)
  have e' : cut l = ys.flatMap It.s := by unfold cut; rw [e]; simp
  have hr : runes (cut l) = ys := by rw [e']; exact runes_of_good ys fun y hy => (q1 y hy).2
  rw [hr]
  exact ⟨List.all_eq_true.2 fun y hy => (q1 y hy).1, by omega, q3⟩
theorem cutF_all : ∀ (xs : List It) (out : List UInt8) (n : Nat), (∀ x ∈ xs, sgn x = true) → n + xs.length ≤ 16 → out.length + (xs.flatMap It.s).length ≤ 24 → cutF xs out n = out ++ xs.flatMap It.s := by
  intro xs
  induction xs with
  | nil => intro out n _ _ _; simp [cutF]
  | cons x xs ih =>
    intro out n h1 h2 h3
    rw [List.flatMap_cons, List.length_append] at h3
    simp only [List.length_cons] at h2
    unfold cutF
    rw [if_pos (h1 x List.mem_cons_self), if_neg (by omega), ih _ _ (fun y hy => h1 y (List.mem_cons_of_mem _ hy)) (by omega) (by rw [List.length_append]; omega)]
    simp
theorem isN_iff (l : List UInt8) : isN l = true ↔ (∀ x ∈ runes l, sgn x = true) ∧ 1 ≤ l.length ∧ l.length ≤ 24 ∧ (runes l).length ≤ 16 ∧ l ≠ [46] ∧ l ≠ [46, 46] := by
  unfold isN
  simp [List.all_eq_true, and_assoc]
theorem cut_isN (l : List UInt8) (h : isN l = true) : cut l = l := by
  obtain ⟨h1, h2, h3, h4, -⟩ := (isN_iff l).1 h
  unfold cut
  rw [cutF_all _ _ _ h1 (by omega) (by rw [flat]; simpa using h3), flat]
  simp
theorem fit_isN (l : List UInt8) (h : isN l = true) : fit l = l := by
  unfold fit
  rw [cut_isN l h, if_pos h]
theorem isN_fit (l : List UInt8) : isN (fit l) = true := by
  unfold fit
  by_cases h : isN (cut l) = true
  · rw [if_pos h]; exact h
  · rw [if_neg h]
    obtain ⟨q1, q2, q3⟩ := cut_spec l
    have : cut l = [] ∨ cut l = [46] ∨ cut l = [46, 46] := by
      rw [isN_iff] at h
      rcases Classical.em (cut l = []) with e | e
      · exact .inl e
      · right
        rcases Classical.em (cut l = [46]) with e1 | e1
        · exact .inl e1
        · right
          rcases Classical.em (cut l = [46, 46]) with e2 | e2
          · exact e2
          · exfalso
            refine h ⟨List.all_eq_true.1 q1, ?_, q3, q2, e1, e2⟩
            cases hc : cut l with
            | nil => exact absurd hc e
            | cons a t => simp
    rcases this with e | e | e <;> rw [e] <;> decide +kernel
theorem fit_fit (l : List UInt8) : fit (fit l) = fit l := fit_isN _ (isN_fit l)

/-! ### heads -/
theorem runes_head (l : List UInt8) (n : Int) : runes (headN l n) = (runes l).take n.toNat := runes_take _ l (Nat.le_refl _) _
theorem head_cnt (l : List UInt8) (n : Int) : cntR (headN l n) + cntO (headN l n) = min n.toNat (cntR l + cntO l) := by
  rw [cnt_all, cnt_all, runes_head, List.length_take]
theorem head_odd (l : List UInt8) (n : Int) (h : cntO l = 0) : cntO (headN l n) = 0 := by
  unfold cntO at *
  rw [runes_head]
  have h' : ∀ x ∈ runes l, x.odd = false := by
    intro x hx
    cases ho : x.odd with
    | false => rfl
    | true =>
      have := List.eq_nil_of_length_eq_zero h
      rw [List.filter_eq_nil_iff] at this
      exact absurd ho (this x hx)
  rw [List.length_eq_zero_iff, List.filter_eq_nil_iff]
  intro x hx
  rw [h' x (List.mem_of_mem_take hx)]
  decide
theorem head_pre (l : List UInt8) (n : Int) : (headN l n).length ≤ l.length ∧ l.take (headN l n).length = headN l n := by
  obtain ⟨j, hj⟩ := take_flat l n.toNat
  unfold headN
  rw [hj, List.length_take]
  refine ⟨by omega, ?_⟩
  rw [List.take_eq_take_iff]
  omega
theorem cntO_zero {l : List UInt8} (h : cntO l = 0) : ∀ x ∈ runes l, x.odd = false := by
  intro x hx
  unfold cntO at h
  cases ho : x.odd with
  | false => rfl
  | true =>
    have := List.eq_nil_of_length_eq_zero h
    rw [List.filter_eq_nil_iff] at this
    exact absurd ho (this x hx)
theorem cnt_app (s t : List UInt8) (h : cntO s = 0) (h2 : cntO t = 0) : cntR (s ++ t) = cntR s + cntR t ∧ cntO (s ++ t) = 0 := by
  have := runes_app s t (cntO_zero h)
  unfold cntR cntO at *
  rw [this, List.filter_append, List.filter_append, List.length_append, List.length_append]
  exact ⟨rfl, by omega⟩
theorem head_app (s t : List UInt8) (h : cntO s = 0) : headN (s ++ t) (cntR s : Nat) = s := by
  have hr := runes_app s t (cntO_zero h)
  have hl := cnt_all s
  unfold headN
  rw [hr, Int.toNat_natCast, List.take_left' (by omega), flat]

/-! ### fold -/
set_option maxRecDepth 100000 in
set_option maxHeartbeats 4000000 in
theorem dec_fold (n b0 b1 b2 b3 c0 c1 c2 c3 : Nat) (h0 : c0 = if 65 ≤ b0 ∧ b0 ≤ 90 then b0 + 32 else b0) (h1 : c1 = if 65 ≤ b1 ∧ b1 ≤ 90 then b1 + 32 else b1) (h2 : c2 = if 65 ≤ b2 ∧ b2 ≤ 90 then b2 + 32 else b2) (h3 : c3 = if 65 ≤ b3 ∧ b3 ≤ 90 then b3 + 32 else b3) :
    Lib.decodeN n c0 c1 c2 c3 = (if 65 ≤ (Lib.decodeN n b0 b1 b2 b3).1 ∧ (Lib.decodeN n b0 b1 b2 b3).1 ≤ 90 then (Lib.decodeN n b0 b1 b2 b3).1 + 32 else (Lib.decodeN n b0 b1 b2 b3).1, (Lib.decodeN n b0 b1 b2 b3).2) := by
  have d1 : c1 / 64 = 2 ↔ b1 / 64 = 2 := by subst h1; split <;> omega
  have d2 : c2 / 64 = 2 ↔ b2 / 64 = 2 := by subst h2; split <;> omega
  have d3 : c3 / 64 = 2 ↔ b3 / 64 = 2 := by subst h3; split <;> omega
  have e1 : b1 / 64 = 2 → c1 = b1 := by intro h; subst h1; rw [if_neg (by omega)]
  have e2 : b2 / 64 = 2 → c2 = b2 := by intro h; subst h2; rw [if_neg (by omega)]
  have e3 : b3 / 64 = 2 → c3 = b3 := by intro h; subst h3; rw [if_neg (by omega)]
  clear h1 h2 h3
  unfold Lib.decodeN
  by_cases g0 : b0 < 128
  · have : c0 < 128 := by subst h0; split <;> omega
    rw [if_pos this, if_pos g0]
    subst h0
    rfl
  · have : c0 = b0 := by subst h0; rw [if_neg (by omega)]
    subst this
    clear h0
    rw [if_neg g0, if_neg g0]
    by_cases g1 : c0 / 32 = 6 ∧ (1 < n ∧ b1 / 64 = 2)
    · rw [if_pos g1, if_pos ⟨g1.1, g1.2.1, d1.2 g1.2.2⟩, e1 g1.2.2]
      split
      · rw [if_neg (by simp only; omega)]
      · rfl
    · rw [if_neg g1, if_neg (fun h => g1 ⟨h.1, h.2.1, d1.1 h.2.2⟩)]
      by_cases g2 : c0 / 16 = 14 ∧ (1 < n ∧ b1 / 64 = 2) ∧ (2 < n ∧ b2 / 64 = 2)
      · rw [if_pos g2, if_pos ⟨g2.1, ⟨g2.2.1.1, d1.2 g2.2.1.2⟩, ⟨g2.2.2.1, d2.2 g2.2.2.2⟩⟩, e1 g2.2.1.2, e2 g2.2.2.2]
        split
        · rw [if_neg (by simp only; omega)]
        · rfl
      · rw [if_neg g2, if_neg (fun h => g2 ⟨h.1, ⟨h.2.1.1, d1.1 h.2.1.2⟩, ⟨h.2.2.1, d2.1 h.2.2.2⟩⟩)]
        by_cases g3 : c0 / 8 = 30 ∧ (1 < n ∧ b1 / 64 = 2) ∧ (2 < n ∧ b2 / 64 = 2) ∧ (3 < n ∧ b3 / 64 = 2)
        · rw [if_pos g3, if_pos ⟨g3.1, ⟨g3.2.1.1, d1.2 g3.2.1.2⟩, ⟨g3.2.2.1.1, d2.2 g3.2.2.1.2⟩, ⟨g3.2.2.2.1, d3.2 g3.2.2.2.2⟩⟩, e1 g3.2.1.2, e2 g3.2.2.1.2, e3 g3.2.2.2.2]
          split
          · rw [if_neg (by simp only; omega)]
          · rfl
        · rw [if_neg g3, if_neg (fun h => g3 ⟨h.1, ⟨h.2.1.1, d1.1 h.2.1.2⟩, ⟨h.2.2.1.1, d2.1 h.2.2.1.2⟩, ⟨h.2.2.2.1, d3.1 h.2.2.2.2⟩⟩)]
          rfl
theorem foldc_nat (c : UInt8) : (foldc c).toNat = if 65 ≤ c.toNat ∧ c.toNat ≤ 90 then c.toNat + 32 else c.toNat := by
  unfold foldc
  split
  · rw [UInt8.toNat_add]
    have : (32 : UInt8).toNat = 32 := rfl
    omega
  · rfl
theorem fold_getD (l : List UInt8) (i : Nat) : ((fold l).getD i 0).toNat = if 65 ≤ (l.getD i 0).toNat ∧ (l.getD i 0).toNat ≤ 90 then (l.getD i 0).toNat + 32 else (l.getD i 0).toNat := by
  rw [← foldc_nat]
  unfold fold
  rw [List.getD_eq_getElem?_getD, List.getElem?_map, List.getD_eq_getElem?_getD]
  cases l[i]? <;> rfl
def foldIt (x : It) : It := ⟨if 65 ≤ x.v ∧ x.v ≤ 90 then x.v + 32 else x.v, fold x.s, x.odd⟩
theorem length_fold (l : List UInt8) : (fold l).length = l.length := by simp [fold]
theorem it_fold (l : List UInt8) : it (fold l) = foldIt (it l) := by
  have e := dec_fold l.length _ _ _ _ _ _ _ _ (fold_getD l 0) (fold_getD l 1) (fold_getD l 2) (fold_getD l 3)
  have e' : rn (fold l) = (if 65 ≤ (rn l).1 ∧ (rn l).1 ≤ 90 then (rn l).1 + 32 else (rn l).1, (rn l).2) := by
    unfold rn
    rw [length_fold]
    exact e
  have ho : odd (fold l) = odd l := by
    unfold odd
    rw [e']
    by_cases h : 65 ≤ (rn l).1 ∧ (rn l).1 ≤ 90
    · rw [if_pos h, beq_eq_false_iff_ne.2 (show (rn l).1 + 32 ≠ 65533 by omega), beq_eq_false_iff_ne.2 (show (rn l).1 ≠ 65533 by omega)]
    · rw [if_neg h]
  unfold it
  rw [ho]
  cases odd l with
  | true => simp [foldIt, fold, List.map_take]
  | false =>
    simp only [Bool.false_eq_true, if_false]
    rw [e']
    unfold foldIt
    simp only [It.mk.injEq, and_true]
    refine ⟨?_, by simp [fold, List.map_take]⟩
    by_cases h : 65 ≤ (rn l).1 ∧ (rn l).1 ≤ 90
    · rw [if_pos h, if_pos (by omega)]; omega
    · rw [if_neg h, if_neg (by omega)]
theorem runes_fold : ∀ (k : Nat) (l : List UInt8), l.length ≤ k → runes (fold l) = (runes l).map foldIt := by
  intro k
  induction k with
  | zero => intro l h; have : l = [] := List.eq_nil_of_length_eq_zero (by omega); subst this; rfl
  | succ k ih =>
    intro l h
    by_cases h0 : l = []
    · subst h0; rfl
    · have hil := it_len l h0
      have hne : fold l ≠ [] := by intro e; have := congrArg List.length e; rw [length_fold] at this; simp at this; exact h0 this
      rw [runes_cons _ hne, it_fold, runes_cons l h0, List.map_cons]
      have hl2 : (foldIt (it l)).s.length = (it l).s.length := length_fold _
      have hd : (fold l).drop (it l).s.length = fold (l.drop (it l).s.length) := by simp [fold, List.map_drop]
      rw [hl2, hd, ih _ (by rw [List.length_drop]; omega)]
theorem sgn_fold (x : It) : sgn (foldIt x) = sgn x := by
  unfold sgn foldIt
  cases x.odd
  · rw [Bool.eq_iff_iff]
    simp only [Bool.not_false, Bool.true_and, Bool.and_eq_true, decide_eq_true_eq, bne_iff_ne, ne_eq]
    split <;> omega
  · simp
theorem foldc_foldc (c : UInt8) : foldc (foldc c) = foldc c := by
  have h := foldc_nat (foldc c)
  apply UInt8.toNat_inj.1
  rw [h, foldc_nat]
  repeat' split
  all_goals omega
theorem fold_fold (l : List UInt8) : fold (fold l) = fold l := by
  unfold fold
  rw [List.map_map]
  exact List.map_congr_left fun c _ => foldc_foldc c
theorem cnt_fold (l : List UInt8) : cntR (fold l) = cntR l ∧ cntO (fold l) = cntO l := by
  unfold cntR cntO
  rw [runes_fold _ l (Nat.le_refl _), List.filter_map, List.filter_map, List.length_map, List.length_map]
  exact ⟨rfl, rfl⟩
theorem foldc_46 (c : UInt8) : foldc c = 46 ↔ c = 46 := by
  have h := foldc_nat c
  constructor
  · intro e
    rw [e] at h
    apply UInt8.toNat_inj.1
    have : (46 : UInt8).toNat = 46 := rfl
    rw [this] at h ⊢
    split at h <;> omega
  · rintro rfl; rfl
theorem isN_fold (l : List UInt8) : isN (fold l) = isN l := by
  rw [Bool.eq_iff_iff, isN_iff, isN_iff, runes_fold _ l (Nat.le_refl _), length_fold, List.length_map]
  have h1 : (∀ x ∈ (runes l).map foldIt, sgn x = true) ↔ ∀ x ∈ runes l, sgn x = true := by
    simp only [List.mem_map, forall_exists_index, and_imp, forall_apply_eq_imp_iff₂, sgn_fold]
  have h2 : fold l = [46] ↔ l = [46] := by
    match l with
    | [] => simp [fold]
    | [a] => simp [fold, foldc_46]
    | a :: b :: t => simp [fold]
  have h3 : fold l = [46, 46] ↔ l = [46, 46] := by
    match l with
    | [] => simp [fold]
    | [a] => simp [fold]
    | [a, b] => simp [fold, foldc_46]
    | a :: b :: c :: t => simp [fold]
  rw [h1]
  simp only [ne_eq, h2, h3]

/-! ### order -/
theorem cmpI_self (a : List Int) : cmpI a a = 0 := by
  induction a with
  | nil => rfl
  | cons x xs ih => simp [cmpI, ih]
theorem cmpI_swap : ∀ (a b : List Int), cmpI a b = -cmpI b a
  | [], [] => rfl
  | [], _ :: _ => rfl
  | _ :: _, [] => rfl
  | x :: xs, y :: ys => by
    unfold cmpI
    have := cmpI_swap xs ys
    repeat' split
    all_goals omega
theorem cmpI_bound : ∀ (a b : List Int), -1 ≤ cmpI a b ∧ cmpI a b ≤ 1
  | [], [] => by simp [cmpI]
  | [], _ :: _ => by simp [cmpI]
  | _ :: _, [] => by simp [cmpI]
  | x :: xs, y :: ys => by
    unfold cmpI
    have := cmpI_bound xs ys
    repeat' split
    all_goals omega
theorem cmpI_zero : ∀ (a b : List Int), cmpI a b = 0 ↔ a = b
  | [], [] => by simp [cmpI]
  | [], _ :: _ => by simp [cmpI]
  | _ :: _, [] => by simp [cmpI]
  | x :: xs, y :: ys => by
    unfold cmpI
    have := cmpI_zero xs ys
    rw [List.cons.injEq]
    repeat' split
    · simp; omega
    · simp; omega
    · rw [this]; simp; omega
theorem cmpI_trans : ∀ (a b c : List Int), cmpI a b ≤ 0 → cmpI b c ≤ 0 → cmpI a c ≤ 0
  | [], _, [] => by simp [cmpI]
  | [], _, _ :: _ => by simp [cmpI]
  | _ :: _, [], _ => by simp [cmpI]
  | _ :: _, _ :: _, [] => by intro _ h; simp [cmpI] at h
  | x :: xs, y :: ys, z :: zs => by
    unfold cmpI
    have := cmpI_trans xs ys zs
    repeat' split
    all_goals omega
theorem nums_inj {a b : List UInt8} (h : nums a = nums b) : a = b := by
  unfold nums at h
  exact (List.map_inj_right (fun x y hxy => UInt8.toNat_inj.1 (by omega))).1 h
theorem ord_zero (a b : List UInt8) : ord a b = 0 ↔ a = b := by
  unfold ord
  rw [cmpI_zero]
  exact ⟨nums_inj, fun h => by rw [h]⟩
theorem bytesLess_ord : ∀ (a b : List UInt8), Op.bytesLess a b = decide (ord a b = -1)
  | [], [] => rfl
  | [], _ :: _ => rfl
  | _ :: _, [] => rfl
  | x :: xs, y :: ys => by
    have ih := bytesLess_ord xs ys
    unfold ord nums at *
    rw [Bool.eq_iff_iff, decide_eq_true_iff] at *
    simp only [Op.bytesLess, Bool.or_eq_true, Bool.and_eq_true, decide_eq_true_eq, beq_iff_eq, ih, List.map_cons, cmpI]
    have h1 : x < y ↔ (x.toNat : Int) < y.toNat := by rw [UInt8.lt_iff_toNat_lt]; omega
    have h2 : x = y ↔ (x.toNat : Int) = y.toNat := ⟨fun h => by rw [h], fun h => UInt8.toNat_inj.1 (by omega)⟩
    rw [h1, h2]
    repeat' split
    all_goals omega

set_option maxRecDepth 100000 in
set_option maxHeartbeats 8000000 in
/-- Of two runes the one that is less has the octets that come first. -/
theorem dec_ord (n m a0 a1 a2 a3 b0 b1 b2 b3 : Nat) (ha0 : a0 < 256) (ha1 : a1 < 256) (ha2 : a2 < 256) (ha3 : a3 < 256) (hb0 : b0 < 256) (hb1 : b1 < 256) (hb2 : b2 < 256) (hb3 : b3 < 256)
    (ha : Lib.decodeN n a0 a1 a2 a3 ≠ (65533, 1)) (hb : Lib.decodeN m b0 b1 b2 b3 ≠ (65533, 1)) (h : (Lib.decodeN n a0 a1 a2 a3).1 < (Lib.decodeN m b0 b1 b2 b3).1) :
    a0 < b0 ∨ (a0 = b0 ∧ 1 < n ∧ 1 < m ∧ a1 < b1) ∨ (a0 = b0 ∧ a1 = b1 ∧ 2 < n ∧ 2 < m ∧ a2 < b2) ∨ (a0 = b0 ∧ a1 = b1 ∧ a2 = b2 ∧ 3 < n ∧ 3 < m ∧ a3 < b3) := by
  have key : ∀ n a0 a1 a2 a3 : Nat, a0 < 256 → a1 < 256 → a2 < 256 → a3 < 256 → Lib.decodeN n a0 a1 a2 a3 ≠ (65533, 1) →
      (a0 < 128 ∧ (Lib.decodeN n a0 a1 a2 a3).1 = a0) ∨ (192 ≤ a0 ∧ a0 < 224 ∧ 1 < n ∧ 128 ≤ a1 ∧ a1 < 192 ∧ (Lib.decodeN n a0 a1 a2 a3).1 = (a0 - 192) * 64 + (a1 - 128) ∧ 128 ≤ (Lib.decodeN n a0 a1 a2 a3).1) ∨
      (224 ≤ a0 ∧ a0 < 240 ∧ 1 < n ∧ 128 ≤ a1 ∧ a1 < 192 ∧ 2 < n ∧ 128 ≤ a2 ∧ a2 < 192 ∧ (Lib.decodeN n a0 a1 a2 a3).1 = (a0 - 224) * 4096 + (a1 - 128) * 64 + (a2 - 128) ∧ 2048 ≤ (Lib.decodeN n a0 a1 a2 a3).1) ∨
      (240 ≤ a0 ∧ a0 < 248 ∧ 1 < n ∧ 128 ≤ a1 ∧ a1 < 192 ∧ 2 < n ∧ 128 ≤ a2 ∧ a2 < 192 ∧ 3 < n ∧ 128 ≤ a3 ∧ a3 < 192 ∧ (Lib.decodeN n a0 a1 a2 a3).1 = (a0 - 240) * 262144 + (a1 - 128) * 4096 + (a2 - 128) * 64 + (a3 - 128) ∧ 65536 ≤ (Lib.decodeN n a0 a1 a2 a3).1) := by
    intro n a0 a1 a2 a3 h0 h1 h2 h3
    unfold Lib.decodeN
    repeat' split
    all_goals intro hne
    all_goals first | exact absurd rfl hne | (dsimp only; omega)
  rcases key n a0 a1 a2 a3 ha0 ha1 ha2 ha3 ha with h1 | h1 | h1 | h1 <;> rcases key m b0 b1 b2 b3 hb0 hb1 hb2 hb3 hb with h2 | h2 | h2 | h2 <;> omega
theorem cmp_cons (x y : UInt8) (a b : List UInt8) : ord (x :: a) (y :: b) = if x.toNat < y.toNat then -1 else if y.toNat < x.toNat then 1 else ord a b := by
  unfold ord nums
  simp only [List.map_cons, cmpI, Int.ofNat_lt]
theorem ord_first (a b : List UInt8) (h : (a.getD 0 0).toNat < (b.getD 0 0).toNat ∨ ((a.getD 0 0).toNat = (b.getD 0 0).toNat ∧ 1 < a.length ∧ 1 < b.length ∧ (a.getD 1 0).toNat < (b.getD 1 0).toNat) ∨ ((a.getD 0 0).toNat = (b.getD 0 0).toNat ∧ (a.getD 1 0).toNat = (b.getD 1 0).toNat ∧ 2 < a.length ∧ 2 < b.length ∧ (a.getD 2 0).toNat < (b.getD 2 0).toNat) ∨
    ((a.getD 0 0).toNat = (b.getD 0 0).toNat ∧ (a.getD 1 0).toNat = (b.getD 1 0).toNat ∧ (a.getD 2 0).toNat = (b.getD 2 0).toNat ∧ 3 < a.length ∧ 3 < b.length ∧ (a.getD 3 0).toNat < (b.getD 3 0).toNat)) (ha : a ≠ []) (hb : b ≠ []) : ord a b = -1 := by
  match a, ha with
  | a0 :: a, _ =>
  match b, hb with
  | b0 :: b, _ =>
  rw [cmp_cons]
  by_cases h0 : a0.toNat < b0.toNat
  · rw [if_pos h0]
  · rw [if_neg h0]
    simp only [List.getD_cons_zero, List.getD_cons_succ, List.length_cons] at h
    rw [if_neg (by omega)]
    match a, b with
    | [], _ => simp at h; omega
    | _ :: _, [] => simp at h; omega
    | a1 :: a, b1 :: b =>
    rw [cmp_cons]
    by_cases h1 : a1.toNat < b1.toNat
    · rw [if_pos h1]
    · rw [if_neg h1]
      simp only [List.getD_cons_zero, List.getD_cons_succ, List.length_cons] at h
      rw [if_neg (by omega)]
      match a, b with
      | [], _ => simp at h; omega
      | _ :: _, [] => simp at h; omega
      | a2 :: a, b2 :: b =>
      rw [cmp_cons]
      by_cases h2 : a2.toNat < b2.toNat
      · rw [if_pos h2]
      · rw [if_neg h2]
        simp only [List.getD_cons_zero, List.getD_cons_succ, List.length_cons] at h
        rw [if_neg (by omega)]
        match a, b with
        | [], _ => simp at h; omega
        | _ :: _, [] => simp at h; omega
        | a3 :: a, b3 :: b =>
        rw [cmp_cons]
        simp only [List.getD_cons_zero, List.length_cons] at h
        rw [if_pos (by omega)]
theorem it_v (l : List UInt8) (h : odd l = false) : (it l).v = (rn l).1 := by unfold it; rw [h]; rfl
theorem ord_it (a b : List UInt8) (ha : a ≠ []) (hb : b ≠ []) (oa : odd a = false) (ob : odd b = false) (h : (it a).v < (it b).v) : ord a b = -1 := by
  refine ord_first a b ?_ ha hb
  rw [it_v a oa, it_v b ob] at h
  refine dec_ord a.length b.length _ _ _ _ _ _ _ _ (a.getD 0 0).toNat_lt (a.getD 1 0).toNat_lt (a.getD 2 0).toNat_lt (a.getD 3 0).toNat_lt (b.getD 0 0).toNat_lt (b.getD 1 0).toNat_lt (b.getD 2 0).toNat_lt (b.getD 3 0).toNat_lt ?_ ?_ (by unfold rn at h; omega)
  · intro e
    have : rn a = (65533, 1) := e
    unfold odd at oa; rw [this] at oa; cases oa
  · intro e
    have : rn b = (65533, 1) := e
    unfold odd at ob; rw [this] at ob; cases ob
theorem ord_app (c a b : List UInt8) : ord (c ++ a) (c ++ b) = ord a b := by
  induction c with
  | nil => rfl
  | cons x c ih => rw [List.cons_append, List.cons_append, cmp_cons, if_neg (Nat.lt_irrefl _), if_neg (Nat.lt_irrefl _), ih]
set_option maxRecDepth 100000 in
set_option maxHeartbeats 8000000 in
theorem dec_inj (n m a0 a1 a2 a3 b0 b1 b2 b3 : Nat) (ha0 : a0 < 256) (ha1 : a1 < 256) (ha2 : a2 < 256) (ha3 : a3 < 256) (hb0 : b0 < 256) (hb1 : b1 < 256) (hb2 : b2 < 256) (hb3 : b3 < 256)
    (ha : Lib.decodeN n a0 a1 a2 a3 ≠ (65533, 1)) (hb : Lib.decodeN m b0 b1 b2 b3 ≠ (65533, 1)) (h : (Lib.decodeN n a0 a1 a2 a3).1 = (Lib.decodeN m b0 b1 b2 b3).1) :
    a0 = b0 ∧ (Lib.decodeN n a0 a1 a2 a3).2 = (Lib.decodeN m b0 b1 b2 b3).2 ∧ (1 < (Lib.decodeN n a0 a1 a2 a3).2 → a1 = b1) ∧ (2 < (Lib.decodeN n a0 a1 a2 a3).2 → a2 = b2) ∧ (3 < (Lib.decodeN n a0 a1 a2 a3).2 → a3 = b3) := by
  have key : ∀ n a0 a1 a2 a3 : Nat, a0 < 256 → a1 < 256 → a2 < 256 → a3 < 256 → Lib.decodeN n a0 a1 a2 a3 ≠ (65533, 1) →
      (a0 < 128 ∧ (Lib.decodeN n a0 a1 a2 a3).1 = a0 ∧ (Lib.decodeN n a0 a1 a2 a3).2 = 1) ∨ (192 ≤ a0 ∧ a0 < 224 ∧ 1 < n ∧ 128 ≤ a1 ∧ a1 < 192 ∧ (Lib.decodeN n a0 a1 a2 a3).1 = (a0 - 192) * 64 + (a1 - 128) ∧ 128 ≤ (Lib.decodeN n a0 a1 a2 a3).1 ∧ (Lib.decodeN n a0 a1 a2 a3).2 = 2) ∨
      (224 ≤ a0 ∧ a0 < 240 ∧ 1 < n ∧ 128 ≤ a1 ∧ a1 < 192 ∧ 2 < n ∧ 128 ≤ a2 ∧ a2 < 192 ∧ (Lib.decodeN n a0 a1 a2 a3).1 = (a0 - 224) * 4096 + (a1 - 128) * 64 + (a2 - 128) ∧ 2048 ≤ (Lib.decodeN n a0 a1 a2 a3).1 ∧ (Lib.decodeN n a0 a1 a2 a3).2 = 3) ∨
      (240 ≤ a0 ∧ a0 < 248 ∧ 1 < n ∧ 128 ≤ a1 ∧ a1 < 192 ∧ 2 < n ∧ 128 ≤ a2 ∧ a2 < 192 ∧ 3 < n ∧ 128 ≤ a3 ∧ a3 < 192 ∧ (Lib.decodeN n a0 a1 a2 a3).1 = (a0 - 240) * 262144 + (a1 - 128) * 4096 + (a2 - 128) * 64 + (a3 - 128) ∧ 65536 ≤ (Lib.decodeN n a0 a1 a2 a3).1 ∧ (Lib.decodeN n a0 a1 a2 a3).2 = 4) := by
    intro n a0 a1 a2 a3 h0 h1 h2 h3
    unfold Lib.decodeN
    repeat' split
    all_goals intro hne
    all_goals first | exact absurd rfl hne | (dsimp only; omega)
  rcases key n a0 a1 a2 a3 ha0 ha1 ha2 ha3 ha with h1 | h1 | h1 | h1 <;> rcases key m b0 b1 b2 b3 hb0 hb1 hb2 hb3 hb with h2 | h2 | h2 | h2 <;> omega
theorem it_inj (a b : List UInt8) (ha : a ≠ []) (hb : b ≠ []) (oa : odd a = false) (ob : odd b = false) (h : (it a).v = (it b).v) : (it a).s = (it b).s := by
  rw [it_v a oa, it_v b ob] at h
  have na : Lib.decodeN a.length (a.getD 0 0).toNat (a.getD 1 0).toNat (a.getD 2 0).toNat (a.getD 3 0).toNat ≠ (65533, 1) := by
    intro e
    have : rn a = (65533, 1) := e
    unfold odd at oa; rw [this] at oa; cases oa
  have nb : Lib.decodeN b.length (b.getD 0 0).toNat (b.getD 1 0).toNat (b.getD 2 0).toNat (b.getD 3 0).toNat ≠ (65533, 1) := by
    intro e
    have : rn b = (65533, 1) := e
    unfold odd at ob; rw [this] at ob; cases ob
  have := dec_inj a.length b.length _ _ _ _ _ _ _ _ (a.getD 0 0).toNat_lt (a.getD 1 0).toNat_lt (a.getD 2 0).toNat_lt (a.getD 3 0).toNat_lt (b.getD 0 0).toNat_lt (b.getD 1 0).toNat_lt (b.getD 2 0).toNat_lt (b.getD 3 0).toNat_lt na nb (by unfold rn at h; omega)
  obtain ⟨q0, q, q1, q2, q3⟩ := this
  obtain ⟨f1, f2, f3, -⟩ := rn_facts a ha
  obtain ⟨g1, g2, g3, -⟩ := rn_facts b hb
  have q' : (rn a).2 = (rn b).2 := q
  unfold it
  rw [oa, ob]
  simp only [Bool.false_eq_true, if_false]
  rw [← q']
  have e2 : (rn a).2 = (Lib.decodeN a.length (a.getD 0 0).toNat (a.getD 1 0).toNat (a.getD 2 0).toNat (a.getD 3 0).toNat).2 := rfl
  rw [← e2] at q1 q2 q3
  clear na nb q e2 h
  rw [← q'] at g3
  generalize (rn a).2 = k at *
  have gg : ∀ (l : List UInt8) (i : Nat), i < l.length → l[i]? = some (l.getD i 0) := by
    intro l i hi
    rw [List.getD_eq_getElem?_getD, List.getElem?_eq_getElem hi]; rfl
  apply List.ext_getElem? fun i => ?_
  rw [List.getElem?_take, List.getElem?_take]
  split
  · rename_i hi
    rw [gg a i (by omega), gg b i (by omega)]
    congr 1
    apply UInt8.toNat_inj.1
    match i, hi with
    | 0, _ => exact q0
    | 1, hi => exact q1 hi
    | 2, hi => exact q2 hi
    | 3, hi => exact q3 hi
    | i + 4, hi => omega
  · rfl
theorem ord_vals : ∀ (k : Nat) (a b : List UInt8), a.length ≤ k → (∀ x ∈ runes a, x.odd = false) → (∀ x ∈ runes b, x.odd = false) → ord a b = cmpI (vals a) (vals b) := by
  intro k
  induction k with
  | zero =>
    intro a b h _ _
    have : a = [] := List.eq_nil_of_length_eq_zero (by omega)
    subst this
    by_cases hb : b = []
    · subst hb; rfl
    · unfold vals
      rw [runes_cons b hb]
      match b, hb with
      | x :: b, _ => rfl
  | succ k ih =>
    intro a b h oa ob
    by_cases ha : a = []
    · subst ha
      by_cases hb : b = []
      · subst hb; rfl
      · unfold vals
        rw [runes_cons b hb]
        match b, hb with
        | x :: b, _ => rfl
    · by_cases hb : b = []
      · subst hb
        unfold vals
        rw [runes_cons a ha]
        match a, ha with
        | x :: a, _ => rfl
      · have hia := it_len a ha
        have hib := it_len b hb
        have ra := runes_cons a ha
        have rb := runes_cons b hb
        unfold vals
        rw [ra, rb] 
        rw [ra] at oa
        rw [rb] at ob
        have za : odd a = false := by rw [← it_odd]; exact oa _ List.mem_cons_self
        have zb : odd b = false := by rw [← it_odd]; exact ob _ List.mem_cons_self
        simp only [List.map_cons, cmpI]
        by_cases h1 : (it a).v < (it b).v
        · rw [if_pos h1]; exact ord_it a b ha hb za zb h1
        · rw [if_neg h1]
          by_cases h2 : (it b).v < (it a).v
          · rw [if_pos h2]
            have := ord_it b a hb ha zb za h2
            unfold ord at *
            rw [cmpI_swap, this]; rfl
          · rw [if_neg h2]
            have hs := it_inj a b ha hb za zb (by omega)
            have ih' := ih (a.drop (it a).s.length) (b.drop (it b).s.length) (by rw [List.length_drop]; omega) (fun x hx => oa x (List.mem_cons_of_mem _ hx)) (fun x hx => ob x (List.mem_cons_of_mem _ hx))
            unfold vals at ih'
            rw [← ih']
            have ea : a = (it a).s ++ a.drop (it a).s.length := by
              conv => rhs; lhs; rw [hia.2.2.2]
              exact (List.take_append_drop _ _).symm
            have eb : b = (it a).s ++ b.drop (it b).s.length := by
              rw [hs]
              conv => rhs; lhs; rw [hib.2.2.2]
              exact (List.take_append_drop _ _).symm
            conv => lhs; rw [ea, eb]
            exact ord_app _ _ _
end Go.Proofs.Ytahcbgllnoopgaa.Tl
