/-
  Paths: the plain law. By an AI agent.
-/
import Derived.Test.YtahcbgllnoopgaaTitleQ
import Derived.Lib.Bytealg
namespace Go.Proofs.Ytahcbgllnoopgaa.Pa

abbrev N := List UInt8

/-- A text at each slash. -/
def cut : List UInt8 → List N
  | [] => [[]]
  | c :: s => if c = 47 then [] :: cut s else match cut s with
    | [] => [[c]]
    | x :: xs => (c :: x) :: xs
theorem cut_ne : ∀ s, cut s ≠ []
  | [] => by simp [cut]
  | c :: s => by
    unfold cut
    split
    · simp
    · split <;> simp
def snoc (l : List N) (c : UInt8) : List N := if c = 47 then l ++ [[]] else l.dropLast ++ [l.getLastD [] ++ [c]]
theorem cut_snoc (c : UInt8) : ∀ s, cut (s ++ [c]) = snoc (cut s) c
  | [] => by
    simp only [List.nil_append, cut, snoc]
    split <;> simp
  | d :: s => by
    have ih := cut_snoc c s
    have hne := cut_ne s
    rw [List.cons_append]
    show (if d = 47 then [] :: cut (s ++ [c]) else match cut (s ++ [c]) with | [] => [[d]] | x :: xs => (d :: x) :: xs) = snoc (if d = 47 then [] :: cut s else match cut s with | [] => [[d]] | x :: xs => (d :: x) :: xs) c
    rw [ih]
    cases hc : cut s with
    | nil => exact absurd hc hne
    | cons x xs =>
      by_cases hd : d = 47
      · rw [if_pos hd, if_pos hd]
        unfold snoc
        by_cases h47 : c = 47
        · rw [if_pos h47, if_pos h47]; rfl
        · rw [if_neg h47, if_neg h47]
          simp [List.getLastD_eq_getLast?]
      · rw [if_neg hd, if_neg hd]
        unfold snoc
        by_cases h47 : c = 47
        · rw [if_pos h47, if_pos h47]; rfl
        · rw [if_neg h47, if_neg h47]
          cases xs with
          | nil => simp
          | cons y ys => simp [List.getLastD_eq_getLast?]
theorem cut_len (s : List UInt8) : (cut s).length ≤ s.length + 1 := by
  induction s with
  | nil => simp [cut]
  | cons c s ih =>
    unfold cut
    split
    · simp; omega
    · split
      · simp
      · rename_i x xs h
        rw [h] at ih
        simp at ih ⊢
        omega
theorem cut_each (s : List UInt8) : ∀ x ∈ cut s, x.length ≤ s.length := by
  induction s with
  | nil => intro x hx; simp [cut] at hx; subst hx; simp
  | cons c s ih =>
    intro x hx
    unfold cut at hx
    split at hx
    · rcases List.mem_cons.1 hx with rfl | hx
      · simp
      · have := ih x hx; simp; omega
    · split at hx
      · rcases List.mem_singleton.1 hx with rfl; simp
      · rename_i y ys h
        rcases List.mem_cons.1 hx with rfl | hx
        · have := ih y (by rw [h]; exact List.mem_cons_self)
          simp; omega
        · have := ih x (by rw [h]; exact List.mem_cons_of_mem _ hx)
          simp; omega
/-- The first slash. -/
theorem cut_idx : ∀ r : List UInt8, (Lib.indexByte r 47 = -1 ∧ cut r = [r]) ∨ ∃ i : Nat, i < r.length ∧ Lib.indexByte r 47 = i ∧ cut r = r.take i :: cut (r.drop (i + 1))
  | [] => .inl ⟨rfl, rfl⟩
  | c :: s => by
    by_cases hc : c = 47
    · refine .inr ⟨0, by simp, ?_, ?_⟩
      · simp [Lib.indexByte, hc]
      · simp [cut, hc]
    · have hb : (c == 47) = false := beq_eq_false_iff_ne.2 hc
      rcases cut_idx s with ⟨h1, h2⟩ | ⟨i, hi, h1, h2⟩
      · refine .inl ⟨?_, ?_⟩
        · unfold Lib.indexByte
          rw [hb, h1]
          rfl
        · unfold cut
          rw [if_neg hc, h2]
      · refine .inr ⟨i + 1, by simp; omega, ?_, ?_⟩
        · unfold Lib.indexByte
          rw [hb, h1, if_neg (by simp), if_neg (by simp)]
          rfl
        · rw [show cut (c :: s) = (if c = 47 then [] :: cut s else match cut s with | [] => [[c]] | x :: xs => (c :: x) :: xs) from rfl, if_neg hc, h2]
          simp

/-! ### What Parse makes of the pieces -/
def step (st : List N × Nat) (c : N) : List N × Nat :=
  if st.2 ≠ 0 then st else if c = [] ∨ c = [46] then st else if c = [46, 46] then (st.1.dropLast, 0) else
  if Tl.isN c then (if 8 ≤ st.1.length then ([], 16) else (st.1 ++ [c], 0)) else ([], 11)
def ps (l : List N) : List N × Nat := l.foldl step ([], 0)
theorem fold_bad (l : List N) (st : List N × Nat) (h : st.2 ≠ 0) : l.foldl step st = st := by
  induction l with
  | nil => rfl
  | cons c l ih => rw [List.foldl_cons]; unfold step; rw [if_pos h]; exact ih
theorem ps_snoc (l : List N) (c : N) : ps (l ++ [c]) = step (ps l) c := by unfold ps; rw [List.foldl_append]; rfl
theorem ps_app (l m : List N) : ps (l ++ m) = m.foldl step (ps l) := by unfold ps; rw [List.foldl_append]
theorem ps_bad (l m : List N) (h : (ps l).2 ≠ 0) : ps (l ++ m) = ps l := by rw [ps_app, fold_bad _ _ h]
theorem ps_take_bad (l : List N) (k : Nat) (h : (ps (l.take k)).2 ≠ 0) : ps l = ps (l.take k) := by
  conv => lhs; rw [← List.take_append_drop k l]
  exact ps_bad _ _ h
def Good (st : List N × Nat) : Prop := st.1.length ≤ 8 ∧ (∀ c ∈ st.1, Tl.isN c = true) ∧ (st.2 = 0 ∨ st.1 = [])
theorem good_step {st : List N × Nat} (h : Good st) (c : N) : Good (step st c) := by
  obtain ⟨h1, h2, h3⟩ := h
  unfold step
  split
  · exact ⟨h1, h2, h3⟩
  · split
    · exact ⟨h1, h2, h3⟩
    · split
      · exact ⟨by simp; omega, fun c hc => h2 c (List.dropLast_subset _ hc), .inl rfl⟩
      · split
        · split
          · exact ⟨by simp, by simp, .inr rfl⟩
          · rename_i hn h8
            refine ⟨by simp; omega, ?_, .inl rfl⟩
            intro d hd
            rcases List.mem_append.1 hd with hd | hd
            · exact h2 d hd
            · rw [List.mem_singleton.1 hd]; exact hn
        · exact ⟨by simp, by simp, .inr rfl⟩
theorem good_fold (l : List N) : ∀ st, Good st → Good (l.foldl step st) := by
  induction l with
  | nil => exact fun _ h => h
  | cons c l ih => exact fun st h => ih _ (good_step h c)
theorem good_ps (l : List N) : Good (ps l) := good_fold l _ ⟨by simp, by simp, .inl rfl⟩
theorem ps_nil (l : List N) : ps ([] :: l) = ps l := rfl
def parse (s : List UInt8) : List N × Nat := if s.head? = some 47 then (if 200 < s.length then ([], 16) else ps (cut s)) else ([], 11)
theorem good_parse (s : List UInt8) : Good (parse s) := by
  unfold parse
  split
  · split
    · exact ⟨by simp, by simp, .inr rfl⟩
    · exact good_ps _
  · exact ⟨by simp, by simp, .inr rfl⟩
/-- The pieces of a path. -/
def comps (s : List UInt8) : List N := if s.head? = some 47 then cut (s.drop 1) else []
theorem ps_comps (s : List UInt8) (h : s.head? = some 47) : ps (cut s) = ps (comps s) := by
  unfold comps
  rw [if_pos h]
  cases s with
  | nil => cases h
  | cons c s =>
    injection h with h
    subst h
    rfl
/-- Parent. -/
def parent (s : List UInt8) : List N × N × Nat :=
  if (parse s).2 ≠ 0 then ([], [], (parse s).2) else if (parse s).1 = [] then ([], [], 1) else ((parse s).1.dropLast, (parse s).1.getLastD [], 0)
/-- Under. -/
def under (l top : List N) : Bool := decide (top.length < l.length ∧ l.take top.length = top)
/-- Join. -/
def join (l : List N) : N × Nat := if l.all Tl.isN then (if 8 < l.length then ([], 16) else (if l = [] then [47] else l.flatMap (47 :: ·), 0)) else ([], 11)
end Go.Proofs.Ytahcbgllnoopgaa.Pa
