/-
  Plain Lean: the runes and strays of a text, as the model decodes them; no program in sight. By an AI agent.
-/
import Derived.Lib.DecodeN
import Derived.Lib.Hide
namespace Go.Proofs.Ytahcbgllnoopgaa.Tl
open Go

/-- A rune: its value, its octets, whether it is a stray. -/
structure It where
  v : Int
  s : List UInt8
  odd : Bool
deriving DecidableEq

def rn (l : List UInt8) : Nat × Nat := Lib.decodeN l.length (l.getD 0 0).toNat (l.getD 1 0).toNat (l.getD 2 0).toNat (l.getD 3 0).toNat
def odd (l : List UInt8) : Bool := (rn l).1 == 65533 && (rn l).2 == 1
def it (l : List UInt8) : It := if odd l then ⟨-1, l.take 1, true⟩ else ⟨(rn l).1, l.take (rn l).2, false⟩
def runesF : Nat → List UInt8 → List It
  | 0, _ => []
  | f + 1, l => if l = [] then [] else it l :: runesF f (l.drop (it l).s.length)
def runes (l : List UInt8) : List It := runesF l.length l
def runeLen (r : Nat) : Nat := if r ≤ 127 then 1 else if r ≤ 2047 then 2 else if r ≤ 65535 then 3 else 4

set_option maxRecDepth 100000 in
set_option maxHeartbeats 2000000 in
theorem rn_facts (l : List UInt8) (h : l ≠ []) : 1 ≤ (rn l).2 ∧ (rn l).2 ≤ 4 ∧ (rn l).2 ≤ l.length ∧ (rn l).1 ≤ 1114111 ∧ ((rn l).1 < 55296 ∨ 57343 < (rn l).1) ∧ (odd l = false → runeLen (rn l).1 = (rn l).2) := by
  have hl : 1 ≤ l.length := by cases l with | nil => exact absurd rfl h | cons a t => simp
  have h0 := (l.getD 0 0).toNat_lt; have h1 := (l.getD 1 0).toNat_lt; have h2 := (l.getD 2 0).toNat_lt; have h3 := (l.getD 3 0).toNat_lt
  unfold odd rn
  generalize (l.getD 0 0).toNat = b0 at *
  generalize (l.getD 1 0).toNat = b1 at *
  generalize (l.getD 2 0).toNat = b2 at *
  generalize (l.getD 3 0).toNat = b3 at *
  generalize l.length = n at *
  clear h
  unfold Lib.decodeN runeLen
  refine ⟨?_, ?_, ?_, ?_, ?_, ?_⟩
  all_goals (repeat' split)
  all_goals try (simp; done)
  all_goals try (simp only; omega)
  all_goals (simp only [Bool.and_eq_false_iff, beq_eq_false_iff_ne]; omega)

theorem it_len (l : List UInt8) (h : l ≠ []) : 1 ≤ (it l).s.length ∧ (it l).s.length ≤ l.length ∧ (it l).s.length ≤ 4 ∧ (it l).s = l.take (it l).s.length := by
  obtain ⟨h1, h2, h3, -⟩ := rn_facts l h
  have hl : 1 ≤ l.length := by omega
  unfold it
  split
  · simp; omega
  · simp only [List.length_take]
    refine ⟨by omega, by omega, by omega, ?_⟩
    rw [Nat.min_eq_left h3]

theorem runesF_more (f : Nat) : ∀ (l : List UInt8), l.length ≤ f → runesF f l = runes l := by
  have key : ∀ (g f : Nat) (l : List UInt8), l.length ≤ f → l.length ≤ g → runesF f l = runesF g l := by
    intro g
    induction g with
    | zero =>
      intro f l _ h
      have : l = [] := List.eq_nil_of_length_eq_zero (by omega)
      subst this
      cases f <;> simp [runesF]
    | succ g ih =>
      intro f l hf hg
      cases f with
      | zero =>
        have : l = [] := List.eq_nil_of_length_eq_zero (by omega)
        subst this
        simp [runesF]
      | succ f =>
        unfold runesF
        by_cases h : l = []
        · simp [h]
        · have := it_len l h
          rw [if_neg h, if_neg h, ih f _ (by rw [List.length_drop]; omega) (by rw [List.length_drop]; omega)]
  intro l h
  exact key _ _ _ h (Nat.le_refl _)
theorem runes_nil : runes [] = [] := rfl
theorem runes_cons (l : List UInt8) (h : l ≠ []) : runes l = it l :: runes (l.drop (it l).s.length) := by
  have hl := it_len l h
  have : ∃ n, l.length = n + 1 := ⟨l.length - 1, by omega⟩
  obtain ⟨n, hn⟩ := this
  rw [runes, hn, runesF, if_neg h, runesF_more]
  rw [List.length_drop]; omega

/-- All octets are in the runes. -/
theorem runes_flat : ∀ (n : Nat) (l : List UInt8), l.length ≤ n → (runes l).flatMap It.s = l := by
  intro n
  induction n with
  | zero => intro l h; have : l = [] := List.eq_nil_of_length_eq_zero (by omega); subst this; rfl
  | succ n ih =>
    intro l h
    by_cases h0 : l = []
    · subst h0; rfl
    · have := it_len l h0
      rw [runes_cons l h0, List.flatMap_cons, ih _ (by rw [List.length_drop]; omega)]
      conv => lhs; lhs; rw [this.2.2.2]
      exact List.take_append_drop _ _
theorem flat (l : List UInt8) : (runes l).flatMap It.s = l := runes_flat _ l (Nat.le_refl _)
theorem runes_len (l : List UInt8) : (runes l).length ≤ l.length := by
  have key : ∀ (n : Nat) (l : List UInt8), l.length ≤ n → (runes l).length ≤ l.length := by
    intro n
    induction n with
    | zero => intro l h; have : l = [] := List.eq_nil_of_length_eq_zero (by omega); subst this; simp [runes_nil]
    | succ n ih =>
      intro l h
      by_cases h0 : l = []
      · subst h0; simp [runes_nil]
      · have := it_len l h0
        have h2 := ih (l.drop (it l).s.length) (by rw [List.length_drop]; omega)
        rw [runes_cons l h0, List.length_cons]
        rw [List.length_drop] at h2
        omega
  exact key _ l (Nat.le_refl _)

/-- Whatever is done with each rune and stray in turn, until it says no. -/
def run {σ : Type} (step : σ → It → σ) (go : σ → It → Bool) : σ → List It → σ
  | st, [] => st
  | st, x :: xs => if go st x then run step go (step st x) xs else step st x

theorem take3 (l : List UInt8) : l.take 3 = [239, 191, 189] ↔ 2 < l.length ∧ (l.getD 0 0).toNat = 239 ∧ (l.getD 1 0).toNat = 191 ∧ (l.getD 2 0).toNat = 189 := by
  have key : ∀ (x y : UInt8), x = y ↔ x.toNat = y.toNat := fun x y => ⟨fun h => by rw [h], fun h => UInt8.toNat_inj.1 h⟩
  match l with
  | [] => simp
  | [a] => simp
  | [a, b] => simp
  | a :: b :: c :: t => simp [key]

set_option maxRecDepth 100000 in
set_option maxHeartbeats 2000000 in
/-- The prefix that a range also gives for a stray. -/
theorem odd_iff (l : List UInt8) (hr : (rn l).1 = 65533) : odd l = !decide (l.take 3 = [239, 191, 189]) := by
  rw [Bool.eq_iff_iff]
  simp only [Bool.not_eq_true', decide_eq_false_iff_not, take3]
  have h0 := (l.getD 0 0).toNat_lt; have h1 := (l.getD 1 0).toNat_lt; have h2 := (l.getD 2 0).toNat_lt; have h3 := (l.getD 3 0).toNat_lt
  unfold odd
  simp only [Bool.and_eq_true, beq_iff_eq]
  unfold rn at *
  generalize (l.getD 0 0).toNat = b0 at *
  generalize (l.getD 1 0).toNat = b1 at *
  generalize (l.getD 2 0).toNat = b2 at *
  generalize (l.getD 3 0).toNat = b3 at *
  generalize l.length = n at *
  unfold Lib.decodeN at *
  revert hr
  repeat' split
  all_goals (intro hr; refine ⟨fun hh => ?_, fun hh => ?_⟩)
  all_goals first | (intro hk; simp only at hr hh; omega) | (refine ⟨by simp only at hr ⊢; try omega, ?_⟩; simp only at hr ⊢; try omega)
theorem odd_rn (l : List UInt8) (h : (rn l).1 ≠ 65533) : odd l = false := by
  unfold odd
  simp [h]

/-- The model's own word, of octets from a place on. -/
theorem decode_drop (s : ByteArray) (pos : Nat) : Utf8.decode s pos = rn (s.data.toList.drop pos) := by
  have hg : ∀ k, s.get! (pos + k) = (s.data.toList.drop pos).getD k 0 := by
    intro k
    rcases s with ⟨a⟩
    show a.get!Internal (pos + k) = _
    rw [Array.get!Internal_eq_getElem!]
    simp only [List.getD_eq_getElem?_getD, List.getElem?_drop, Array.getElem?_toList]
    rw [getElem!_def]
    cases a[pos + k]? <;> rfl
  rw [Lib.decode_at, rn]
  have hn : (s.data.toList.drop pos).length = s.size - pos := by rw [List.length_drop]; rfl
  rw [hn, ← hg 0, ← hg 1, ← hg 2, ← hg 3]
  rfl

end Go.Proofs.Ytahcbgllnoopgaa.Tl
