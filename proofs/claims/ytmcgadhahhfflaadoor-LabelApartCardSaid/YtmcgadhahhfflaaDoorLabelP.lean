/-
  Plain Lean: the records of supers and labels, and what is read out of a block. No program. By an AI agent.
-/
import Derived.Test.YtmcgadhahhfflaaDoorCodeP
namespace Go.Proofs.YtmcgadhahhfflaaDoor.Lb
open Pk (isW chk rec1 recs nums need val be clr)
open Crc (sealed held)

def geoB (d l v s : Int) : Bool := decide (8 ≤ d ∧ d ≤ 256 ∧ 1 ≤ l ∧ l ≤ d - 6 ∧ 0 ≤ v ∧ v ≤ 8 ∧ 1 ≤ s ∧ s ≤ 256)
def labB (v g : Int) : Bool := decide (0 ≤ v ∧ v < 8 ∧ 0 ≤ g ∧ g ≤ 4294967295)
def supW : List Int := [4, 2, 2, 1, 2]
def labW : List Int := [4, 1, 4]
def supV (d l v s : Nat) : List Nat := [1751218541, d, l, v, s]
def labV (v g : Nat) : List Nat := [1752592236, v, g]
def supE (d l v s : Nat) : List UInt8 := sealed (recs (supW.zip (supV d l v s)))
def labE (v g : Nat) : List UInt8 := sealed (recs (labW.zip (labV v g)))
/-- What label.read answers. -/
def rdErr (l : List UInt8) (mark : Nat) (ws : List Int) : Nat :=
  if held l then (if val (l.take 4) = mark then (if clr (l.take 124) (4 + need ws : Nat) then 0 else 3) else 3) else 5
def rdVals (l : List UInt8) (ws : List Int) : List Nat := nums (l.drop 4) ws

theorem sup_chk (d l v s : Nat) (h : geoB d l v s = true) : ∀ x ∈ supW.zip (supV d l v s), chk x = 0 := by
  unfold geoB at h
  rw [decide_eq_true_iff] at h
  intro x hx
  simp only [supW, supV, List.zip_cons_cons, List.zip_nil_right, List.mem_cons, List.not_mem_nil, or_false] at hx
  rcases hx with rfl | rfl | rfl | rfl | rfl <;> refine Pk.chk_ok rfl ?_ <;> simp <;> omega
theorem lab_chk (v g : Nat) (h : labB v g = true) : ∀ x ∈ labW.zip (labV v g), chk x = 0 := by
  unfold labB at h
  rw [decide_eq_true_iff] at h
  intro x hx
  simp only [labW, labV, List.zip_cons_cons, List.zip_nil_right, List.mem_cons, List.not_mem_nil, or_false] at hx
  rcases hx with rfl | rfl | rfl <;> refine Pk.chk_ok rfl ?_ <;> simp <;> omega
theorem need_sup : need supW = 11 := rfl
theorem need_lab : need labW = 9 := rfl
theorem sup_reads (d l v s : Nat) (h : geoB d l v s = true) : held (supE d l v s) = true ∧ nums (supE d l v s) supW = supV d l v s ∧ clr ((supE d l v s).take 124) (11 : Nat) = true :=
  Cd.sealed_reads supW (supV d l v s) rfl (sup_chk d l v s h) (by rw [need_sup]; omega)
theorem lab_reads (v g : Nat) (h : labB v g = true) : held (labE v g) = true ∧ nums (labE v g) labW = labV v g ∧ clr ((labE v g).take 124) (9 : Nat) = true :=
  Cd.sealed_reads labW (labV v g) rfl (lab_chk v g h) (by rw [need_lab]; omega)
theorem sup_inj (d l v s d' l' v' s' : Nat) (h : geoB d l v s = true) (h' : geoB d' l' v' s' = true) : supE d l v s = supE d' l' v' s' ↔ d = d' ∧ l = l' ∧ v = v' ∧ s = s' := by
  unfold supE
  rw [Cd.sealed_inj supW _ _ rfl rfl (sup_chk d l v s h) (sup_chk d' l' v' s' h') (by rw [need_sup]; omega)]
  unfold supV
  simp
theorem lab_inj (v g v' g' : Nat) (h : labB v g = true) (h' : labB v' g' = true) : labE v g = labE v' g' ↔ v = v' ∧ g = g' := by
  unfold labE
  rw [Cd.sealed_inj labW _ _ rfl rfl (lab_chk v g h) (lab_chk v' g' h') (by rw [need_lab]; omega)]
  unfold labV
  simp
theorem nums4 (l : List UInt8) (ws : List Int) : nums l (4 :: ws) = val (l.take 4) :: rdVals l ws := rfl
/-- The document reads a super so: what it reads has this very block. -/
theorem sup_iff (l : List UInt8) (hh : held l = true) (a b c d : Nat) (hv : rdVals l [2, 2, 1, 2] = [a, b, c, d]) (hg : geoB a b c d = true) : supE a b c d = l ↔ rdErr l 1751218541 [2, 2, 1, 2] = 0 := by
  unfold supE
  rw [Cd.seal_iff l supW (supV a b c d) rfl (sup_chk _ _ _ _ hg) (by rw [need_sup]; omega) hh]
  unfold rdErr
  rw [hh, if_pos rfl]
  have e : nums l supW = val (l.take 4) :: [a, b, c, d] := by rw [← hv]; rfl
  rw [e]
  unfold supV
  simp only [List.cons.injEq, and_true]
  have e2 : ((need supW : Nat) : Int) = ((4 + need [2, 2, 1, 2] : Nat) : Int) := rfl
  rw [e2]
  generalize clr (l.take 124) ((4 + need [2, 2, 1, 2] : Nat) : Int) = q
  by_cases h1 : val (l.take 4) = 1751218541
  · rw [if_pos h1]
    cases q <;> simp [h1]
  · rw [if_neg h1]; simp [h1]
theorem lab_iff (l : List UInt8) (hh : held l = true) (a b : Nat) (hv : rdVals l [1, 4] = [a, b]) (hg : labB a b = true) : labE a b = l ↔ rdErr l 1752592236 [1, 4] = 0 := by
  unfold labE
  rw [Cd.seal_iff l labW (labV a b) rfl (lab_chk _ _ hg) (by rw [need_lab]; omega) hh]
  unfold rdErr
  rw [hh, if_pos rfl]
  have e : nums l labW = val (l.take 4) :: [a, b] := by rw [← hv]; rfl
  rw [e]
  unfold labV
  simp only [List.cons.injEq, and_true]
  have e2 : ((need labW : Nat) : Int) = ((4 + need [1, 4] : Nat) : Int) := rfl
  rw [e2]
  generalize clr (l.take 124) ((4 + need [1, 4] : Nat) : Int) = q
  by_cases h1 : val (l.take 4) = 1752592236
  · rw [if_pos h1]
    cases q <;> simp [h1]
  · rw [if_neg h1]; simp [h1]
theorem sup_rd (d l v s : Nat) (h : geoB d l v s = true) : rdErr (supE d l v s) 1751218541 [2, 2, 1, 2] = 0 ∧ rdVals (supE d l v s) [2, 2, 1, 2] = [d, l, v, s] ∧ rdErr (supE d l v s) 1752592236 [1, 4] = 3 := by
  obtain ⟨h1, h2, h3⟩ := sup_reads d l v s h
  have e : nums (supE d l v s) supW = val ((supE d l v s).take 4) :: rdVals (supE d l v s) [2, 2, 1, 2] := rfl
  rw [e] at h2
  unfold supV at h2
  simp only [List.cons.injEq] at h2
  refine ⟨?_, h2.2, ?_⟩
  · unfold rdErr
    rw [h1, if_pos rfl, if_pos h2.1, if_pos]
    exact h3
  · unfold rdErr
    rw [h1, if_pos rfl, if_neg]
    rw [h2.1]; decide
theorem lab_rd (v g : Nat) (h : labB v g = true) : rdErr (labE v g) 1752592236 [1, 4] = 0 ∧ rdVals (labE v g) [1, 4] = [v, g] ∧ rdErr (labE v g) 1751218541 [2, 2, 1, 2] = 3 := by
  obtain ⟨h1, h2, h3⟩ := lab_reads v g h
  have e : nums (labE v g) labW = val ((labE v g).take 4) :: rdVals (labE v g) [1, 4] := rfl
  rw [e] at h2
  unfold labV at h2
  simp only [List.cons.injEq] at h2
  refine ⟨?_, h2.2, ?_⟩
  · unfold rdErr
    rw [h1, if_pos rfl, if_pos h2.1, if_pos]
    exact h3
  · unfold rdErr
    rw [h1, if_pos rfl, if_neg]
    rw [h2.1]; decide
theorem supE_len (d l v s : Nat) : (recs (supW.zip (supV d l v s))).length = 11 := Cd.recs_len supW (supV d l v s) rfl
theorem labE_len (v g : Nat) : (recs (labW.zip (labV v g))).length = 9 := Cd.recs_len labW (labV v g) rfl
theorem rdErr_cases (l : List UInt8) (m : Nat) (ws : List Int) : rdErr l m ws = 0 ∨ rdErr l m ws = 3 ∨ rdErr l m ws = 5 := by
  unfold rdErr
  repeat' split
  all_goals simp
/-! ### what is read -/
def fa (l : List UInt8) : Nat := val ((l.drop 4).take 2)
def fb (l : List UInt8) : Nat := val ((l.drop 6).take 2)
def fc (l : List UInt8) : Nat := val ((l.drop 8).take 1)
def fd (l : List UInt8) : Nat := val ((l.drop 9).take 2)
def ga (l : List UInt8) : Nat := val ((l.drop 4).take 1)
def gb (l : List UInt8) : Nat := val ((l.drop 5).take 4)
theorem sup_vals (l : List UInt8) : rdVals l [2, 2, 1, 2] = [fa l, fb l, fc l, fd l] := by
  unfold rdVals fa fb fc fd
  simp only [nums, List.drop_drop]
  rfl
theorem lab_vals (l : List UInt8) : rdVals l [1, 4] = [ga l, gb l] := by
  unfold rdVals ga gb
  simp only [nums, List.drop_drop]
  rfl
def rsErr (l : List UInt8) : Nat := if rdErr l 1751218541 [2, 2, 1, 2] = 0 then (if geoB (fa l) (fb l) (fc l) (fd l) then 0 else 3) else rdErr l 1751218541 [2, 2, 1, 2]
def rlErr (l : List UInt8) : Nat := if rdErr l 1752592236 [1, 4] = 0 then (if labB (ga l) (gb l) then 0 else 3) else rdErr l 1752592236 [1, 4]
theorem val_lt_of (l : List UInt8) (n : Nat) : val (l.take n) < 256 ^ n :=
  Nat.lt_of_lt_of_le (Pk.val_lt _) (Nat.pow_le_pow_right (by omega) (List.length_take_le _ _))
theorem f_lt (l : List UInt8) : fa l < 65536 ∧ fb l < 65536 ∧ fc l < 256 ∧ fd l < 65536 := ⟨val_lt_of _ 2, val_lt_of _ 2, val_lt_of _ 1, val_lt_of _ 2⟩
theorem g_lt (l : List UInt8) : ga l < 256 ∧ gb l < 4294967296 := ⟨val_lt_of _ 1, val_lt_of _ 4⟩
/-- As the document says it. -/
theorem rs_doc (l : List UInt8) : rsErr l = if held l then (if geoB (fa l) (fb l) (fc l) (fd l) ∧ supE (fa l) (fb l) (fc l) (fd l) = l then 0 else 3) else 5 := by
  unfold rsErr
  cases hh : held l with
  | false =>
    have : rdErr l 1751218541 [2, 2, 1, 2] = 5 := by unfold rdErr; rw [hh]; rfl
    rw [this]; rfl
  | true =>
    rw [if_pos rfl]
    cases hg : geoB (fa l) (fb l) (fc l) (fd l) with
    | false =>
      have := rdErr_cases l 1751218541 [2, 2, 1, 2]
      have h5 : rdErr l 1751218541 [2, 2, 1, 2] ≠ 5 := by
        unfold rdErr
        rw [hh, if_pos rfl]
        repeat' split
        all_goals decide
      rcases this with h | h | h
      · rw [h]; simp
      · rw [h]; simp
      · exact absurd h h5
    | true =>
      have hi := sup_iff l hh (fa l) (fb l) (fc l) (fd l) (sup_vals l) hg
      by_cases h0 : rdErr l 1751218541 [2, 2, 1, 2] = 0
      · rw [if_pos h0]; simp [hi.2 h0]
      · rw [if_neg h0, if_neg (fun h => h0 (hi.1 h.2))]
        have h5 : rdErr l 1751218541 [2, 2, 1, 2] ≠ 5 := by
          unfold rdErr
          rw [hh, if_pos rfl]
          repeat' split
          all_goals decide
        rcases rdErr_cases l 1751218541 [2, 2, 1, 2] with h | h | h
        · exact absurd h h0
        · exact h
        · exact absurd h h5
theorem rl_doc (l : List UInt8) : rlErr l = if held l then (if labB (ga l) (gb l) ∧ labE (ga l) (gb l) = l then 0 else 3) else 5 := by
  unfold rlErr
  cases hh : held l with
  | false =>
    have : rdErr l 1752592236 [1, 4] = 5 := by unfold rdErr; rw [hh]; rfl
    rw [this]; rfl
  | true =>
    rw [if_pos rfl]
    have h5 : rdErr l 1752592236 [1, 4] ≠ 5 := by
      unfold rdErr
      rw [hh, if_pos rfl]
      repeat' split
      all_goals decide
    cases hg : labB (ga l) (gb l) with
    | false =>
      rcases rdErr_cases l 1752592236 [1, 4] with h | h | h
      · rw [h]; simp
      · rw [h]; simp
      · exact absurd h h5
    | true =>
      have hi := lab_iff l hh (ga l) (gb l) (lab_vals l) hg
      by_cases h0 : rdErr l 1752592236 [1, 4] = 0
      · rw [if_pos h0]; simp [hi.2 h0]
      · rw [if_neg h0, if_neg (fun h => h0 (hi.1 h.2))]
        rcases rdErr_cases l 1752592236 [1, 4] with h | h | h
        · exact absurd h h0
        · exact h
        · exact absurd h h5
theorem sup_back (d l v s : Nat) (h : geoB d l v s = true) : rsErr (supE d l v s) = 0 ∧ fa (supE d l v s) = d ∧ fb (supE d l v s) = l ∧ fc (supE d l v s) = v ∧ fd (supE d l v s) = s ∧ rlErr (supE d l v s) = 3 := by
  obtain ⟨h1, h2, h3⟩ := sup_rd d l v s h
  rw [sup_vals] at h2
  simp only [List.cons.injEq, and_true] at h2
  obtain ⟨e1, e2, e3, e4⟩ := h2
  refine ⟨?_, e1, e2, e3, e4, ?_⟩
  · unfold rsErr; rw [if_pos h1, e1, e2, e3, e4, h]; rfl
  · unfold rlErr; rw [h3]; rfl
theorem lab_back (v g : Nat) (h : labB v g = true) : rlErr (labE v g) = 0 ∧ ga (labE v g) = v ∧ gb (labE v g) = g ∧ rsErr (labE v g) = 3 := by
  obtain ⟨h1, h2, h3⟩ := lab_rd v g h
  rw [lab_vals] at h2
  simp only [List.cons.injEq, and_true] at h2
  obtain ⟨e1, e2⟩ := h2
  refine ⟨?_, e1, e2, ?_⟩
  · unfold rlErr; rw [if_pos h1, e1, e2, h]; rfl
  · unfold rsErr; rw [h3]; rfl
end Go.Proofs.YtmcgadhahhfflaaDoor.Lb
