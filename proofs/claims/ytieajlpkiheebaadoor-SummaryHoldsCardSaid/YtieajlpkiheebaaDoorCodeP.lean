/-
  Plain Lean: blocks that hold a record of numbers and then noughts, sealed or not: which octets are the block of which numbers. No program. By an AI agent.
-/
import Derived.Test.YtieajlpkiheebaaDoorCrcP
import Derived.Test.YtieajlpkiheebaaDoorPackP
namespace Go.Proofs.YtieajlpkiheebaaDoor.Cd
open Pk (isW chk rec1 recs nums need val be clr chk_zero)
open Crc (sealed held pad octs)

theorem recs_cons (x : Int × Nat) (l : List (Int × Nat)) : recs (x :: l) = rec1 x ++ recs l := by unfold recs; rw [List.flatMap_cons]
theorem need_cons (w : Int) (ws : List Int) : need (w :: ws) = w.toNat + need ws := by unfold need; simp
/-- The record of the numbers that octets begin with. -/
theorem recs_nums : ∀ (ws : List Int) (l : List UInt8), need ws ≤ l.length → recs (ws.zip (nums l ws)) = l.take (need ws)
  | [], l, _ => by simp [nums, recs, need]
  | w :: ws, l, h => by
    rw [need_cons] at h ⊢
    have ih := recs_nums ws (l.drop w.toNat) (by rw [List.length_drop]; omega)
    rw [nums, List.zip_cons_cons, recs_cons, ih]
    unfold rec1
    have : be (val (l.take w.toNat)) w.toNat = l.take w.toNat := by
      have := Pk.be_val (l.take w.toNat)
      rw [List.length_take, Nat.min_eq_left (by omega)] at this
      exact this
    rw [this, List.take_add]
theorem chk_nums : ∀ (ws : List Int) (l : List UInt8), (∀ w ∈ ws, isW w = true) → ∀ x ∈ ws.zip (nums l ws), chk x = 0
  | [], l, _, x, hx => by simp at hx
  | w :: ws, l, h, x, hx => by
    rw [nums, List.zip_cons_cons] at hx
    rcases List.mem_cons.1 hx with rfl | hx
    · refine Pk.chk_ok (h w List.mem_cons_self) ?_
      have h1 := Pk.val_lt (l.take w.toNat)
      have h2 : 256 ^ (l.take w.toNat).length ≤ 256 ^ w.toNat := Nat.pow_le_pow_right (by omega) (List.length_take_le _ _)
      exact Nat.lt_of_lt_of_le h1 h2
    · exact chk_nums ws _ (fun y hy => h y (List.mem_cons_of_mem _ hy)) x hx
theorem zip_fst : ∀ (W : List Int) (V : List Nat), V.length = W.length → (W.zip V).map (·.1) = W
  | [], [], _ => rfl
  | [], _ :: _, h => by simp at h
  | _ :: _, [], h => by simp at h
  | w :: W, v :: V, h => by rw [List.zip_cons_cons, List.map_cons, zip_fst W V (by simpa using h)]
theorem zip_snd : ∀ (W : List Int) (V : List Nat), V.length = W.length → (W.zip V).map (·.2) = V
  | [], [], _ => rfl
  | [], _ :: _, h => by simp at h
  | _ :: _, [], h => by simp at h
  | w :: W, v :: V, h => by rw [List.zip_cons_cons, List.map_cons, zip_snd W V (by simpa using h)]
theorem recs_len (W : List Int) (V : List Nat) (h : V.length = W.length) : (recs (W.zip V)).length = need W := by
  have e : need W = need ((W.zip V).map (·.1)) := by rw [zip_fst W V h]
  rw [Pk.recs_len, e]
  unfold need
  rw [List.map_map]
  rfl
/-- Clear from a place on: a head and then noughts. -/
theorem clr_iff (l : List UInt8) (n : Nat) : clr l n = true ↔ n ≤ l.length ∧ l = pad l.length (l.take n) := by
  unfold clr pad
  simp only [Bool.and_eq_true, decide_eq_true_eq, Int.toNat_natCast]
  constructor
  · rintro ⟨h1, h2⟩
    have hn : n ≤ l.length := by omega
    refine ⟨hn, ?_⟩
    have hd : l.drop n = List.replicate (l.length - n) 0 := by
      refine List.eq_replicate_iff.2 ⟨List.length_drop .., fun b hb => ?_⟩
      have := List.all_eq_true.1 h2 b hb
      simpa using this
    rw [List.length_take, Nat.min_eq_left hn, ← hd, List.take_append_drop]
  · rintro ⟨hn, he⟩
    refine ⟨by omega, ?_⟩
    rw [List.length_take, Nat.min_eq_left hn] at he
    have hd : l.drop n = List.replicate (l.length - n) 0 := by
      have := congrArg (List.drop n) he
      rw [List.drop_left' (by rw [List.length_take]; omega)] at this
      exact this
    rw [hd, List.all_eq_true]
    intro b hb
    rw [List.eq_of_mem_replicate hb]; rfl

/-- THE BLOCK (without a sum): it is that of these numbers just if they are those that it begins with, and what is behind them is clear. -/
theorem fill_iff (l : List UInt8) (W : List Int) (V : List Nat) (hV : V.length = W.length) (hc : ∀ x ∈ W.zip V, chk x = 0) (n : Nat) (hn : need W ≤ n) (hl : l.length = n) :
    pad n (recs (W.zip V)) = l ↔ nums l W = V ∧ clr l (need W : Nat) = true := by
  have hrl := recs_len W V hV
  constructor
  · rintro rfl
    constructor
    · unfold pad
      have := Pk.nums_recs (W.zip V) (List.replicate (n - (recs (W.zip V)).length) 0) hc
      rw [zip_fst W V hV, zip_snd W V hV] at this
      exact this
    · rw [clr_iff]
      refine ⟨by omega, ?_⟩
      rw [hl]
      congr 1
      unfold pad
      rw [List.take_left' hrl]
  · rintro ⟨h1, h2⟩
    obtain ⟨h3, h4⟩ := (clr_iff _ _).1 h2
    rw [← h1, recs_nums W l h3]
    rw [hl] at h4
    exact h4.symm
theorem nums_take (l : List UInt8) (n : Nat) : ∀ (W : List Int) (k : Nat), k + need W ≤ n → nums ((l.take n).drop k) W = nums (l.drop k) W
  | [], _, _ => rfl
  | w :: W, k, h => by
    rw [need_cons] at h
    have ih := nums_take l n W (k + w.toNat) (by omega)
    rw [nums, nums, List.drop_drop, List.drop_drop, ih]
    congr 2
    rw [List.drop_take, List.take_take, Nat.min_eq_left (by omega)]
theorem nums_take0 (l : List UInt8) (n : Nat) (W : List Int) (h : need W ≤ n) : nums (l.take n) W = nums l W := by
  have := nums_take l n W 0 (by omega)
  simpa using this
/-- THE SEALED BLOCK. -/
theorem seal_iff (l : List UInt8) (W : List Int) (V : List Nat) (hV : V.length = W.length) (hc : ∀ x ∈ W.zip V, chk x = 0) (hn : need W ≤ 124) (hh : held l = true) :
    sealed (recs (W.zip V)) = l ↔ nums l W = V ∧ clr (l.take 124) (need W : Nat) = true := by
  have hl : l.length = 128 := by
    unfold held at hh
    simp only [Bool.and_eq_true, beq_iff_eq] at hh
    exact hh.1
  have h4 : (l.take 124).length = 124 := by rw [List.length_take]; omega
  have hs := Crc.sealed_eq l hl
  rw [hh, beq_iff_eq] at hs
  rw [← nums_take0 l 124 W hn, ← fill_iff (l.take 124) W V hV hc 124 hn h4]
  have hrl := recs_len W V hV
  constructor
  · intro h
    rw [← h]
    unfold sealed
    rw [List.take_left' (Crc.length_pad _ _ (by omega))]
  · intro h
    conv => rhs; rw [← hs]
    rw [← h]
    unfold sealed
    rw [Crc.pad_self 124 (pad 124 (recs (W.zip V))) (Crc.length_pad _ _ (by omega))]
/-- What is read out of a sealed block. -/
theorem sealed_reads (W : List Int) (V : List Nat) (hV : V.length = W.length) (hc : ∀ x ∈ W.zip V, chk x = 0) (hn : need W ≤ 124) :
    held (sealed (recs (W.zip V))) = true ∧ nums (sealed (recs (W.zip V))) W = V ∧ clr ((sealed (recs (W.zip V))).take 124) (need W : Nat) = true := by
  have hrl := recs_len W V hV
  have hh := Crc.held_sealed (recs (W.zip V)) (by omega)
  exact ⟨hh, (seal_iff _ W V hV hc hn hh).1 rfl⟩
theorem held_len {l : List UInt8} (h : held l = true) : l.length = 128 := by
  unfold held at h
  simp only [Bool.and_eq_true, beq_iff_eq] at h
  exact h.1
theorem sealed_inj (W : List Int) (V V' : List Nat) (hV : V.length = W.length) (hV' : V'.length = W.length) (hc : ∀ x ∈ W.zip V, chk x = 0) (hc' : ∀ x ∈ W.zip V', chk x = 0) (hn : need W ≤ 124) :
    sealed (recs (W.zip V)) = sealed (recs (W.zip V')) ↔ V = V' := by
  constructor
  · intro h
    have h1 := (sealed_reads W V hV hc hn).2.1
    have h2 := (sealed_reads W V' hV' hc' hn).2.1
    rw [← h1, h, h2]
  · rintro rfl; rfl
end Go.Proofs.YtieajlpkiheebaaDoor.Cd
