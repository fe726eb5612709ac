/-
  Join of package path and of the reference. By an AI agent.
-/
import Derived.Test.YtahcbgllnoopgaaPaO
import Derived.Lib.Join
namespace Go.Proofs.Ytahcbgllnoopgaa
open Go.RowKit Go.ChangeShapes Go.WideShapes Go.ChangeAt

/-! ### The plain part: names hold no slash; a joined path is cut as it was -/
theorem rn_47 (l : List UInt8) (h : l ≠ []) (ho : Tl.odd l = false) (j : Nat) (hj : j < (Tl.rn l).2) (h47 : (l.getD j 0).toNat = 47) : (Tl.rn l).1 = 47 := by
  have hw := (Tl.rn_facts l h).2.1
  have hc : j = 0 ∨ j = 1 ∨ j = 2 ∨ j = 3 := by omega
  unfold Tl.odd Tl.rn at ho
  unfold Tl.rn at hj ⊢
  rcases hc with rfl | rfl | rfl | rfl <;> rw [h47] at hj ho ⊢
  all_goals
    generalize (l.getD 0 0).toNat = b0 at *
    generalize (l.getD 1 0).toNat = b1 at *
    generalize (l.getD 2 0).toNat = b2 at *
    generalize (l.getD 3 0).toNat = b3 at *
    generalize l.length = n at *
    clear hw h h47
    unfold Lib.decodeN at *
    revert hj ho
    repeat' split
    all_goals (first | (intros; rfl) | (intro h1 h2; exfalso; simp at h1 h2; done) | (intro h1 h2; exfalso; simp only at h1; omega) | (intros; omega))
theorem no47 : ∀ (n : Nat) (l : List UInt8), l.length ≤ n → (Tl.runes l).all Tl.sgn = true → (47 : UInt8) ∉ l := by
  intro n
  induction n with
  | zero => intro l h _; have : l = [] := List.eq_nil_of_length_eq_zero (by omega); subst this; simp
  | succ n ih =>
    intro l h ha
    by_cases h0 : l = []
    · subst h0; simp
    · have hl := Tl.it_len l h0
      rw [Tl.runes_cons l h0, List.all_cons, Bool.and_eq_true] at ha
      obtain ⟨h1, h2⟩ := ha
      have hrest := ih (l.drop (Tl.it l).s.length) (by rw [List.length_drop]; omega) h2
      intro hm
      rw [← List.take_append_drop (Tl.it l).s.length l] at hm
      rcases List.mem_append.1 hm with hm | hm
      · unfold Tl.sgn at h1
        simp only [Bool.and_eq_true, Bool.not_eq_true'] at h1
        have hodd : Tl.odd l = false := by
          have := h1.1.1.1
          unfold Tl.it at this
          cases ho : Tl.odd l with
          | false => rfl
          | true => rw [ho, if_pos rfl] at this; cases this
        have hit : Tl.it l = ⟨((Tl.rn l).1 : Nat), l.take (Tl.rn l).2, false⟩ := by unfold Tl.it; rw [hodd, if_neg (by decide)]
        have hv := h1.2
        rw [hit] at hv hm
        dsimp only at hv hm
        rw [List.length_take] at hm
        obtain ⟨j, hj, e⟩ := List.getElem_of_mem hm
        rw [List.length_take] at hj
        have hjl : j < l.length := by omega
        have := rn_47 l h0 hodd j (by omega) (by rw [List.getD_eq_getElem?_getD, List.getElem?_eq_getElem hjl, Option.getD_some]; rw [List.getElem_take] at e; rw [e]; rfl)
        rw [this] at hv
        exact absurd hv (by decide)
      · exact hrest hm
theorem name_parts {c : List UInt8} (h : Tl.isN c = true) : (47 : UInt8) ∉ c ∧ c ≠ [] ∧ c ≠ [46] ∧ c ≠ [46, 46] := by
  unfold Tl.isN at h
  simp only [Bool.and_eq_true, decide_eq_true_eq, bne_iff_ne] at h
  obtain ⟨⟨⟨⟨⟨h1, h2⟩, _⟩, _⟩, h5⟩, h6⟩ := h
  exact ⟨no47 _ c (Nat.le_refl _) h1, by rintro rfl; simp at h2, h5, h6⟩
theorem cut_name (c : List UInt8) (h : (47 : UInt8) ∉ c) : ∀ s, Pa.cut (c ++ 47 :: s) = c :: Pa.cut s := by
  induction c with
  | nil => intro s; show (if (47 : UInt8) = 47 then _ else _) = _; rw [if_pos rfl]
  | cons d c ih =>
    intro s
    have hd : ¬ d = 47 := fun e => h (by rw [e]; exact List.mem_cons_self)
    show (if d = 47 then _ else match Pa.cut (c ++ 47 :: s) with | [] => [[d]] | x :: xs => (d :: x) :: xs) = _
    rw [if_neg hd, ih (fun hm => h (List.mem_cons_of_mem _ hm))]
theorem cut_last (c : List UInt8) (h : (47 : UInt8) ∉ c) : Pa.cut c = [c] := by
  induction c with
  | nil => rfl
  | cons d c ih =>
    have hd : ¬ d = 47 := fun e => h (by rw [e]; exact List.mem_cons_self)
    show (if d = 47 then _ else match Pa.cut c with | [] => [[d]] | x :: xs => (d :: x) :: xs) = _
    rw [if_neg hd, ih (fun hm => h (List.mem_cons_of_mem _ hm))]
/-- The pieces behind a text that ends in a slash. -/
theorem cut_app : ∀ (p : List UInt8) (s : List UInt8), Pa.cut (p ++ 47 :: s) = Pa.cut p ++ Pa.cut s
  | [], s => by show (if (47 : UInt8) = 47 then _ else _) = _; rw [if_pos rfl]; rfl
  | d :: p, s => by
    have ih := cut_app p s
    show (if d = 47 then [] :: Pa.cut (p ++ 47 :: s) else match Pa.cut (p ++ 47 :: s) with | [] => [[d]] | x :: xs => (d :: x) :: xs) = (if d = 47 then [] :: Pa.cut p else match Pa.cut p with | [] => [[d]] | x :: xs => (d :: x) :: xs) ++ Pa.cut s
    rw [ih]
    by_cases hd : d = 47
    · rw [if_pos hd, if_pos hd]; rfl
    · rw [if_neg hd, if_neg hd]
      have hne := Pa.cut_ne p
      cases hc : Pa.cut p with
      | nil => exact absurd hc hne
      | cons x xs => rfl
def jn (l : List (List UInt8)) : List UInt8 := l.flatMap (47 :: ·)
theorem jn_snoc (l : List (List UInt8)) (x : List UInt8) : jn (l ++ [x]) = jn l ++ 47 :: x := by unfold jn; rw [List.flatMap_append]; simp
theorem cut_jn' : ∀ (l : List (List UInt8)), (∀ c ∈ l, Tl.isN c = true) → ∀ p, Pa.cut (p ++ jn l) = Pa.cut p ++ l
  | [], _, p => by show Pa.cut (p ++ []) = _; rw [List.append_nil, List.append_nil]
  | c :: l, h, p => by
    have e : jn (c :: l) = 47 :: (c ++ jn l) := by unfold jn; rw [List.flatMap_cons]; rfl
    rw [e, cut_app, cut_jn' l (fun d hd => h d (List.mem_cons_of_mem _ hd)) c, cut_last c (name_parts (h c List.mem_cons_self)).1]
    rfl
theorem cut_jn (l : List (List UInt8)) (h : ∀ c ∈ l, Tl.isN c = true) : Pa.cut (jn l) = [] :: l := cut_jn' l h []
theorem fold_names : ∀ (l : List (List UInt8)) (ns : List (List UInt8)), (∀ c ∈ l, Tl.isN c = true) → ns.length + l.length ≤ 8 → l.foldl Pa.step (ns, 0) = (ns ++ l, 0)
  | [], ns, _, _ => by simp
  | c :: l, ns, h, h8 => by
    obtain ⟨_, h0, h1, h2⟩ := name_parts (h c List.mem_cons_self)
    rw [List.foldl_cons, step_name ns c h0 h1 h2, if_pos (h c List.mem_cons_self), if_neg (by simp at h8; omega), fold_names l (ns ++ [c]) (fun d hd => h d (List.mem_cons_of_mem _ hd)) (by simp at h8 ⊢; omega)]
    simp
theorem ps_names (l : List (List UInt8)) (h : ∀ c ∈ l, Tl.isN c = true) (h8 : l.length ≤ 8) : Pa.ps ([] :: l) = (l, 0) := by
  rw [Pa.ps_nil]
  have := fold_names l [] h (by simpa using h8)
  exact this
theorem join_jn (l : List (List UInt8)) : [47] ++ Lib.join l [47] = if l = [] then [47] else jn l := by
  cases l with
  | nil => rfl
  | cons x l =>
    rw [if_neg (by simp), Lib.join_cons]
    unfold Lib.joinTail jn
    rw [List.flatMap_cons, List.flatMap_def]
    rfl
/-- What Join gives. -/
theorem join_parts (l : List (List UInt8)) : Pa.join l = if l.all Tl.isN then (if 8 < l.length then ([], 16) else (if l = [] then [47] else jn l, 0)) else ([], 11) := rfl
theorem parse_join (l : List (List UInt8)) (s : List UInt8) (h : Pa.join l = (s, 0)) (hs : s.length ≤ 200) : Pa.parse s = (l, 0) := by
  rw [join_parts] at h
  cases ha : l.all Tl.isN with
  | false => rw [ha, if_neg (by decide)] at h; injection h with _ h; exact absurd h (by decide)
  | true =>
    rw [ha, if_pos rfl] at h
    have hall := List.all_eq_true.1 ha
    by_cases h8 : 8 < l.length
    · rw [if_pos h8] at h; injection h with _ h; exact absurd h (by decide)
    · rw [if_neg h8] at h
      injection h with h _
      by_cases h0 : l = []
      · rw [if_pos h0] at h
        subst h0 h
        rfl
      · rw [if_neg h0] at h
        unfold Pa.parse
        have hh : s.head? = some 47 := by
          rw [← h]
          cases l with
          | nil => exact absurd rfl h0
          | cons x l => unfold jn; rw [List.flatMap_cons]; rfl
        rw [if_pos hh, if_neg (by omega), ← h, cut_jn l hall]
        exact ps_names l hall (by omega)
end Go.Proofs.Ytahcbgllnoopgaa
