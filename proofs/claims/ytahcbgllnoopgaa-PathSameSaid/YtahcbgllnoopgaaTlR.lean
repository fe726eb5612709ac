/-
  The walks of the reference of layer 9: what next, Runes, Is, Count, Head, Order, Fold, cut and Fit answer. By an AI agent.
-/
import Derived.Test.YtahcbgllnoopgaaTlA
namespace Go.Proofs.Ytahcbgllnoopgaa
open Go.RowKit
open Tl (It)

/-! ### plain: the reference's own way to decode -/
def nextN (n b0 b1 b2 b3 : Nat) : Nat × Nat :=
  if b0 < 128 then (b0, 1)
  else if (192 ≤ b0 ∧ b0 < 224) ∧ (1 < n ∧ 128 ≤ b1 ∧ b1 < 192) then
    (if 128 ≤ (b0 - 192) * 64 + (b1 - 128) then ((b0 - 192) * 64 + (b1 - 128), 2) else (65533, 1))
  else if (224 ≤ b0 ∧ b0 < 240) ∧ (1 < n ∧ 128 ≤ b1 ∧ b1 < 192) ∧ (2 < n ∧ 128 ≤ b2 ∧ b2 < 192) then
    (if 2048 ≤ (b0 - 224) * 4096 + (b1 - 128) * 64 + (b2 - 128) ∧ ((b0 - 224) * 4096 + (b1 - 128) * 64 + (b2 - 128) < 55296 ∨ 57343 < (b0 - 224) * 4096 + (b1 - 128) * 64 + (b2 - 128)) then ((b0 - 224) * 4096 + (b1 - 128) * 64 + (b2 - 128), 3) else (65533, 1))
  else if (240 ≤ b0 ∧ b0 < 248) ∧ (1 < n ∧ 128 ≤ b1 ∧ b1 < 192) ∧ (2 < n ∧ 128 ≤ b2 ∧ b2 < 192) ∧ (3 < n ∧ 128 ≤ b3 ∧ b3 < 192) then
    (if 65536 ≤ (b0 - 240) * 262144 + (b1 - 128) * 4096 + (b2 - 128) * 64 + (b3 - 128) ∧ (b0 - 240) * 262144 + (b1 - 128) * 4096 + (b2 - 128) * 64 + (b3 - 128) ≤ 1114111 then ((b0 - 240) * 262144 + (b1 - 128) * 4096 + (b2 - 128) * 64 + (b3 - 128), 4) else (65533, 1))
  else (65533, 1)
set_option maxRecDepth 100000 in
set_option maxHeartbeats 4000000 in
theorem dec_next (n b0 b1 b2 b3 : Nat) (h0 : b0 < 256) (h1 : b1 < 256) (h2 : b2 < 256) (h3 : b3 < 256) : Lib.decodeN n b0 b1 b2 b3 = nextN n b0 b1 b2 b3 := by
  have e0 : b0 / 32 = 6 ↔ 192 ≤ b0 ∧ b0 < 224 := by omega
  have e1 : b0 / 16 = 14 ↔ 224 ≤ b0 ∧ b0 < 240 := by omega
  have e2 : b0 / 8 = 30 ↔ 240 ≤ b0 ∧ b0 < 248 := by omega
  have f1 : b1 / 64 = 2 ↔ 128 ≤ b1 ∧ b1 < 192 := by omega
  have f2 : b2 / 64 = 2 ↔ 128 ≤ b2 ∧ b2 < 192 := by omega
  have f3 : b3 / 64 = 2 ↔ 128 ≤ b3 ∧ b3 < 192 := by omega
  unfold Lib.decodeN nextN
  simp only [e0, e1, e2, f1, f2, f3]
  by_cases g0 : b0 < 128
  · rw [if_pos g0, if_pos g0]
  rw [if_neg g0, if_neg g0]
  by_cases g1 : (192 ≤ b0 ∧ b0 < 224) ∧ (1 < n ∧ 128 ≤ b1 ∧ b1 < 192)
  · rw [if_pos g1, if_pos g1, show b0 % 32 * 64 + b1 % 64 = (b0 - 192) * 64 + (b1 - 128) by omega]
  rw [if_neg g1, if_neg g1]
  by_cases g2 : (224 ≤ b0 ∧ b0 < 240) ∧ (1 < n ∧ 128 ≤ b1 ∧ b1 < 192) ∧ (2 < n ∧ 128 ≤ b2 ∧ b2 < 192)
  · rw [if_pos g2, if_pos g2, show b0 % 16 * 4096 + b1 % 64 * 64 + b2 % 64 = (b0 - 224) * 4096 + (b1 - 128) * 64 + (b2 - 128) by omega]
    have hv : (b0 - 224) * 4096 + (b1 - 128) * 64 + (b2 - 128) ≤ 65535 := by omega
    generalize (b0 - 224) * 4096 + (b1 - 128) * 64 + (b2 - 128) = V at hv ⊢
    have c : (V ≥ 2048 ∧ (V < 55296 ∨ (57344 ≤ V ∧ V ≤ 1114111))) ↔ (2048 ≤ V ∧ (V < 55296 ∨ 57343 < V)) := by omega
    simp only [c]
  rw [if_neg g2, if_neg g2]
  by_cases g3 : (240 ≤ b0 ∧ b0 < 248) ∧ (1 < n ∧ 128 ≤ b1 ∧ b1 < 192) ∧ (2 < n ∧ 128 ≤ b2 ∧ b2 < 192) ∧ (3 < n ∧ 128 ≤ b3 ∧ b3 < 192)
  · rw [if_pos g3, if_pos g3, show b0 % 8 * 262144 + b1 % 64 * 4096 + b2 % 64 * 64 + b3 % 64 = (b0 - 240) * 262144 + (b1 - 128) * 4096 + (b2 - 128) * 64 + (b3 - 128) by omega]
    generalize (b0 - 240) * 262144 + (b1 - 128) * 4096 + (b2 - 128) * 64 + (b3 - 128) = V
    have c : (V ≥ 65536 ∧ (V < 55296 ∨ (57344 ≤ V ∧ V ≤ 1114111))) ↔ (65536 ≤ V ∧ V ≤ 1114111) := by omega
    simp only [c]
  rw [if_neg g3, if_neg g3]
theorem it_bad {l : List UInt8} (h : Tl.rn l = (65533, 1)) : Tl.it l = ⟨-1, l.take 1, true⟩ := by
  unfold Tl.it Tl.odd
  rw [h]; rfl
theorem it_val {l : List UInt8} {v k : Nat} (h : Tl.rn l = (v, k)) (hk : k ≠ 1 ∨ v ≠ 65533) : Tl.it l = ⟨v, l.take k, false⟩ := by
  unfold Tl.it Tl.odd
  rw [h]
  have : ((v, k).1 == 65533 && (v, k).2 == 1) = false := by
    simp only [Bool.and_eq_false_iff, beq_eq_false_iff_ne, ne_eq]
    omega
  rw [this]; rfl

theorem idx {l : List UInt8} (k : Nat) (i : Int) (hi : i = k) (h : k < l.length) (W : World) :
    (Instr.index 9 (.string ⟨l.toArray⟩) (.int .i64 i)).run Try.prog W = .ok (.int .u8 ((l.getD k 0).toNat : Int)) W := by
  subst hi
  rw [run_index_string _ _ _ _ _ Try.underlying9, dif_pos ⟨by omega, by rw [ba_size]; omega⟩]
  simp [List.getD, h]
  rfl

def mor (l : List UInt8) (k : Nat) : Bool := decide (k < l.length) && (decide (128 ≤ (l.getD k 0).toNat) && decide ((l.getD k 0).toNat < 192))
theorem mor_iff (l : List UInt8) (k : Nat) : mor l k = true ↔ k < l.length ∧ 128 ≤ (l.getD k 0).toNat ∧ (l.getD k 0).toNat < 192 := by
  unfold mor; simp
set_option maxHeartbeats 400000 in
theorem more_any (l : List UInt8) (k : Nat) (i : Int) (hi : i = k) (hk : k ≤ 9) (w : World) :
    Calls Try.prog 49 #[.string ⟨l.toArray⟩, .int .i64 i] w fun e w' => e = .returned (.bool (mor l k)) ∧ w = w' := by
  have hsz := ba_size l
  have i0 : 0 ≤ i ∧ i ≤ 9 := by omega
  by_cases h : k < l.length
  · have hix := idx (l := l) k i hi h
    have H : mor l k = (decide (128 ≤ (l.getD k 0).toNat) && decide ((l.getD k 0).toNat < 192)) := by unfold mor; rw [decide_eq_true h]; rfl
    have hlt : i < ((⟨l.toArray⟩ : ByteArray).size : Int) := by rw [hsz]; omega
    have hb := (l.getD k 0).toNat_lt
    rw [H]
    clear hi h H hsz
    generalize (l.getD k 0).toNat = b at *
    generalize (⟨l.toArray⟩ : ByteArray) = s at *
    by_cases h1 : 128 ≤ b
    · have h1' : (128 : Int) ≤ b := by omega
      rw [decide_eq_true h1]
      go_enter Try.func49, Try.ntmps49
      go_wp2
      go_ret
      refine ⟨?_, rfl⟩
      show Ending.returned (.bool (decide ((b : Int) < 192))) = _
      rw [Bool.true_and, show decide ((b : Int) < 192) = decide (b < 192) by rw [Bool.eq_iff_iff, decide_eq_true_iff, decide_eq_true_iff]; omega]
    · have h1' : ¬ (128 : Int) ≤ b := by omega
      rw [decide_eq_false h1]
      go_enter Try.func49, Try.ntmps49
      go_wp2
      go_ret
      exact ⟨rfl, rfl⟩
  · have H : mor l k = false := by unfold mor; rw [decide_eq_false h]; rfl
    have hlt : ¬ i < ((⟨l.toArray⟩ : ByteArray).size : Int) := by rw [hsz]; omega
    rw [H]
    clear hi h H hsz
    generalize (⟨l.toArray⟩ : ByteArray) = s at *
    go_enter Try.func49, Try.ntmps49
    go_wp2
    go_ret
    exact ⟨rfl, rfl⟩

def itV (x : It) : Value := .agg #[.int .i64 x.v, .string ⟨x.s.toArray⟩, .bool x.odd]

set_option maxRecDepth 100000 in
set_option maxHeartbeats 40000000 in
theorem next_any (l : List UInt8) (w : World) (hl : l.length < 1099511627776) (hne : l ≠ []) :
    Calls Try.prog 45 #[.string ⟨l.toArray⟩] w fun e w' => e = .returned (itV (Tl.it l)) ∧ Below w.heap.size w w' := by
  have hn : 0 < l.length := by cases l with | nil => exact absurd rfl hne | cons a t => simp
  have hrn : Tl.rn l = nextN l.length (l.getD 0 0).toNat (l.getD 1 0).toNat (l.getD 2 0).toNat (l.getD 3 0).toNat := dec_next _ _ _ _ _ (l.getD 0 0).toNat_lt (l.getD 1 0).toNat_lt (l.getD 2 0).toNat_lt (l.getD 3 0).toNat_lt
  have hi0 := idx (l := l) 0 0 rfl hn
  have hi1 := idx (l := l) 1 1 rfl
  have hi2 := idx (l := l) 2 2 rfl
  have hi3 := idx (l := l) 3 3 rfl
  have m1 := fun W => more_any l 1 1 rfl (by omega) W
  have m2 := fun W => more_any l 2 2 rfl (by omega) W
  have m3 := fun W => more_any l 3 3 rfl (by omega) W
  have q1 := mor_iff l 1
  have q2 := mor_iff l 2
  have q3 := mor_iff l 3
  have hB := (l.getD 0 0).toNat_lt
  have t1 := ba_take l 1
  have t2 := ba_take l 2
  have t3 := ba_take l 3
  have t4 := ba_take l 4
  have hsz := ba_size l
  have fb : ∀ {v k : Nat}, Tl.rn l = (v, k) → (k ≠ 1 ∨ v ≠ 65533) → itV (Tl.it l) = .agg #[.int .i64 (v : Int), .string ⟨(l.take k).toArray⟩, .bool false] := fun h hk => by rw [it_val h hk]; rfl
  have ff : Tl.rn l = (65533, 1) → itV (Tl.it l) = .agg #[.int .i64 (-1), .string ⟨(l.take 1).toArray⟩, .bool true] := fun h => by rw [it_bad h]; rfl
  rw [← t1] at ff
  have fb1 : ∀ v : Nat, Tl.rn l = (v, 1) → (v ≠ 65533) → itV (Tl.it l) = .agg #[.int .i64 (v : Int), .string ((⟨l.toArray⟩ : ByteArray).extract 0 1), .bool false] := fun v h hk => by rw [t1]; exact fb h (.inr hk)
  have fb2 : ∀ v : Nat, Tl.rn l = (v, 2) → itV (Tl.it l) = .agg #[.int .i64 (v : Int), .string ((⟨l.toArray⟩ : ByteArray).extract 0 2), .bool false] := fun v h => by rw [t2]; exact fb h (.inl (by omega))
  have fb3 : ∀ v : Nat, Tl.rn l = (v, 3) → itV (Tl.it l) = .agg #[.int .i64 (v : Int), .string ((⟨l.toArray⟩ : ByteArray).extract 0 3), .bool false] := fun v h => by rw [t3]; exact fb h (.inl (by omega))
  have fb4 : ∀ v : Nat, Tl.rn l = (v, 4) → itV (Tl.it l) = .agg #[.int .i64 (v : Int), .string ((⟨l.toArray⟩ : ByteArray).extract 0 4), .bool false] := fun v h => by rw [t4]; exact fb h (.inl (by omega))
  rw [hrn] at ff
  have FF := Lib.hid ff
  simp only [hrn] at fb1 fb2 fb3 fb4
  have F1 := Lib.hid fb1
  have F2 := Lib.hid fb2
  have F3 := Lib.hid fb3
  have F4 := Lib.hid fb4
  clear fb fb1 fb2 fb3 fb4 ff t1 t2 t3 t4 hrn hne
  have hc1 := (l.getD 1 0).toNat_lt
  have hc2 := (l.getD 2 0).toNat_lt
  have hc3 := (l.getD 3 0).toNat_lt
  generalize (l.getD 0 0).toNat = b0 at *
  generalize (l.getD 1 0).toNat = b1 at *
  generalize (l.getD 2 0).toNat = b2 at *
  generalize (l.getD 3 0).toNat = b3 at *
  generalize mor l 1 = x1 at *
  generalize mor l 2 = x2 at *
  generalize mor l 3 = x3 at *
  generalize itV (Tl.it l) = R at *
  generalize l.length = n at *
  generalize (⟨l.toArray⟩ : ByteArray) = s at *
  have hs1 : 1 ≤ s.size := by omega
  by_cases g0 : b0 < 128
  · have H := Lib.hid (F1.out b0 (by unfold nextN; rw [if_pos g0]) (by omega))
    clear q1 q2 q3 FF F1 F2 F3 F4
    go_enter Try.func45, Try.ntmps45
    go_wp2
    refine bodyPost_ret (v := R) (by rw [H.out]; simp [results, Try.results45, go_sem]) rfl ⟨rfl, ?_⟩
    first | exact ((Below.refl _ _).alloc (Nat.le_refl _) _).alloc (by simp) _ | exact below_drewN (((Below.refl _ _).alloc (Nat.le_refl _) _).alloc (by simp) _) _ | exact (((below_drewN (((Below.refl _ _).alloc (Nat.le_refl _) _).alloc (by simp) _) _).setCell (Nat.le_refl _) _).setCell (Nat.le_refl _) _).setCell (Nat.le_refl _) _
  have g0' : ¬ (b0 : Int) < 128 := by omega
  cases x1
  · simp only [Bool.false_eq_true, false_iff] at q1
    have H := Lib.hid (FF.out (by unfold nextN; rw [if_neg g0, if_neg (by omega), if_neg (by omega), if_neg (by omega)]))
    clear q1 q2 q3 FF F1 F2 F3 F4 m2 m3 hi1 hi2 hi3
    rcases (by omega : b0 < 192 ∨ (192 ≤ b0 ∧ b0 < 224) ∨ (224 ≤ b0 ∧ b0 < 240) ∨ (240 ≤ b0 ∧ b0 < 248) ∨ 248 ≤ b0) with h | h | h | h | h
    all_goals
      go_enter Try.func45, Try.ntmps45
      go_wp2_with (first | (go_at_call 49; (with_reducible refine (m1 _).mono ?_); rintro e w' ⟨rfl, rfl⟩))
      refine bodyPost_ret (v := R) (by rw [H.out]; simp [results, Try.results45, go_sem]) rfl ⟨rfl, ?_⟩
      first | exact ((Below.refl _ _).alloc (Nat.le_refl _) _).alloc (by simp) _ | exact below_drewN (((Below.refl _ _).alloc (Nat.le_refl _) _).alloc (by simp) _) _ | exact (((below_drewN (((Below.refl _ _).alloc (Nat.le_refl _) _).alloc (by simp) _) _).setCell (Nat.le_refl _) _).setCell (Nat.le_refl _) _).setCell (Nat.le_refl _) _
  simp only [true_iff] at q1
  have hs2 : 2 ≤ s.size := by omega
  have hi1 := hi1 q1.1
  by_cases gA : 192 ≤ b0 ∧ b0 < 224
  · have gA' : (192 : Int) ≤ b0 ∧ (b0 : Int) < 224 := by omega
    by_cases hv : 128 ≤ (b0 - 192) * 64 + (b1 - 128)
    · have hv' : (128 : Int) ≤ ((b0 : Int) - 192) * 64 + b1 - 128 := by omega
      have H := Lib.hid (F2.out ((b0 - 192) * 64 + (b1 - 128)) (by unfold nextN; rw [if_neg g0, if_pos (by omega), if_pos hv]))
      rw [show (((b0 - 192) * 64 + (b1 - 128) : Nat) : Int) = ((b0 : Int) - 192) * 64 + b1 - 128 by omega] at H
      clear q2 q3 FF F1 F2 F3 F4 m2 m3 hi2 hi3
      go_enter Try.func45, Try.ntmps45
      go_wp2_with (first | (go_at_call 49; (with_reducible refine (m1 _).mono ?_); rintro e w' ⟨rfl, rfl⟩))
      refine bodyPost_ret (v := R) (by rw [H.out]; simp [results, Try.results45, go_sem]) rfl ⟨rfl, ?_⟩
      first | exact ((Below.refl _ _).alloc (Nat.le_refl _) _).alloc (by simp) _ | exact below_drewN (((Below.refl _ _).alloc (Nat.le_refl _) _).alloc (by simp) _) _ | exact (((below_drewN (((Below.refl _ _).alloc (Nat.le_refl _) _).alloc (by simp) _) _).setCell (Nat.le_refl _) _).setCell (Nat.le_refl _) _).setCell (Nat.le_refl _) _
    · have hv' : ¬ (128 : Int) ≤ ((b0 : Int) - 192) * 64 + b1 - 128 := by omega
      have H := Lib.hid (FF.out (by unfold nextN; rw [if_neg g0, if_pos (by omega), if_neg hv]))
      clear q2 q3 FF F1 F2 F3 F4 m2 m3 hi2 hi3
      go_enter Try.func45, Try.ntmps45
      go_wp2_with (first | (go_at_call 49; (with_reducible refine (m1 _).mono ?_); rintro e w' ⟨rfl, rfl⟩))
      refine bodyPost_ret (v := R) (by rw [H.out]; simp [results, Try.results45, go_sem]) rfl ⟨rfl, ?_⟩
      first | exact ((Below.refl _ _).alloc (Nat.le_refl _) _).alloc (by simp) _ | exact below_drewN (((Below.refl _ _).alloc (Nat.le_refl _) _).alloc (by simp) _) _ | exact (((below_drewN (((Below.refl _ _).alloc (Nat.le_refl _) _).alloc (by simp) _) _).setCell (Nat.le_refl _) _).setCell (Nat.le_refl _) _).setCell (Nat.le_refl _) _
  cases x2
  · simp only [Bool.false_eq_true, false_iff] at q2
    have H := Lib.hid (FF.out (by unfold nextN; rw [if_neg g0, if_neg (by omega), if_neg (by omega), if_neg (by omega)]))
    clear q2 q3 FF F1 F2 F3 F4 m3 hi2 hi3
    rcases (by omega : b0 < 192 ∨ (224 ≤ b0 ∧ b0 < 240) ∨ (240 ≤ b0 ∧ b0 < 248) ∨ 248 ≤ b0) with h | h | h | h
    all_goals
      go_enter Try.func45, Try.ntmps45
      go_wp2_with (first | (go_at_call 49; (with_reducible refine (m1 _).mono ?_); rintro e w' ⟨rfl, rfl⟩) | (go_at_call 49; (with_reducible refine (m2 _).mono ?_); rintro e w' ⟨rfl, rfl⟩))
      refine bodyPost_ret (v := R) (by rw [H.out]; simp [results, Try.results45, go_sem]) rfl ⟨rfl, ?_⟩
      first | exact ((Below.refl _ _).alloc (Nat.le_refl _) _).alloc (by simp) _ | exact below_drewN (((Below.refl _ _).alloc (Nat.le_refl _) _).alloc (by simp) _) _ | exact (((below_drewN (((Below.refl _ _).alloc (Nat.le_refl _) _).alloc (by simp) _) _).setCell (Nat.le_refl _) _).setCell (Nat.le_refl _) _).setCell (Nat.le_refl _) _
  simp only [true_iff] at q2
  have hs3 : 3 ≤ s.size := by omega
  have hi2 := hi2 q2.1
  by_cases gB : 224 ≤ b0 ∧ b0 < 240
  · have gB' : (224 : Int) ≤ b0 ∧ (b0 : Int) < 240 := by omega
    obtain ⟨V, hV⟩ : ∃ V : Nat, V = (b0 - 224) * 4096 + (b1 - 128) * 64 + (b2 - 128) := ⟨_, rfl⟩
    have hVi : (V : Int) = ((b0 : Int) - 224) * 4096 + ((b1 : Int) - 128) * 64 + b2 - 128 := by omega
    by_cases hv : 2048 ≤ V ∧ (V < 55296 ∨ 57343 < V)
    · have H := Lib.hid (F3.out V (by unfold nextN; rw [if_neg g0, if_neg (by omega), if_pos (by omega), ← hV, if_pos hv]))
      rw [hVi] at H
      have e1 : (2048 : Int) ≤ ((b0 : Int) - 224) * 4096 + ((b1 : Int) - 128) * 64 + b2 - 128 := by omega
      by_cases e2 : ((b0 : Int) - 224) * 4096 + ((b1 : Int) - 128) * 64 + b2 - 128 < 55296
      · clear q3 FF F1 F2 F3 F4 m3 hi3 hVi hV hv
        go_enter Try.func45, Try.ntmps45
        go_wp2_with (first | (go_at_call 49; (with_reducible refine (m1 _).mono ?_); rintro e w' ⟨rfl, rfl⟩) | (go_at_call 49; (with_reducible refine (m2 _).mono ?_); rintro e w' ⟨rfl, rfl⟩))
        go_quiet (fail)
        go_wp2
        refine bodyPost_ret (v := R) (by rw [H.out]; simp [results, Try.results45, go_sem]) rfl ⟨rfl, ?_⟩
        first | exact ((Below.refl _ _).alloc (Nat.le_refl _) _).alloc (by simp) _ | exact below_drewN (((Below.refl _ _).alloc (Nat.le_refl _) _).alloc (by simp) _) _ | exact (((below_drewN (((Below.refl _ _).alloc (Nat.le_refl _) _).alloc (by simp) _) _).setCell (Nat.le_refl _) _).setCell (Nat.le_refl _) _).setCell (Nat.le_refl _) _
      · have e3 : (57343 : Int) < ((b0 : Int) - 224) * 4096 + ((b1 : Int) - 128) * 64 + b2 - 128 := by omega
        clear q3 FF F1 F2 F3 F4 m3 hi3 hVi hV hv
        go_enter Try.func45, Try.ntmps45
        go_wp2_with (first | (go_at_call 49; (with_reducible refine (m1 _).mono ?_); rintro e w' ⟨rfl, rfl⟩) | (go_at_call 49; (with_reducible refine (m2 _).mono ?_); rintro e w' ⟨rfl, rfl⟩))
        go_quiet (fail)
        go_wp2
        refine bodyPost_ret (v := R) (by rw [H.out]; simp [results, Try.results45, go_sem]) rfl ⟨rfl, ?_⟩
        first | exact ((Below.refl _ _).alloc (Nat.le_refl _) _).alloc (by simp) _ | exact below_drewN (((Below.refl _ _).alloc (Nat.le_refl _) _).alloc (by simp) _) _ | exact (((below_drewN (((Below.refl _ _).alloc (Nat.le_refl _) _).alloc (by simp) _) _).setCell (Nat.le_refl _) _).setCell (Nat.le_refl _) _).setCell (Nat.le_refl _) _
    · have H := Lib.hid (FF.out (by unfold nextN; rw [if_neg g0, if_neg (by omega), if_pos (by omega), ← hV, if_neg hv]))
      by_cases e1 : (2048 : Int) ≤ ((b0 : Int) - 224) * 4096 + ((b1 : Int) - 128) * 64 + b2 - 128
      · have e2 : ¬ ((b0 : Int) - 224) * 4096 + ((b1 : Int) - 128) * 64 + b2 - 128 < 55296 := by omega
        have e3 : ¬ (57343 : Int) < ((b0 : Int) - 224) * 4096 + ((b1 : Int) - 128) * 64 + b2 - 128 := by omega
        clear q3 FF F1 F2 F3 F4 m3 hi3 hVi hV hv
        go_enter Try.func45, Try.ntmps45
        go_wp2_with (first | (go_at_call 49; (with_reducible refine (m1 _).mono ?_); rintro e w' ⟨rfl, rfl⟩) | (go_at_call 49; (with_reducible refine (m2 _).mono ?_); rintro e w' ⟨rfl, rfl⟩))
        go_quiet (fail)
        go_wp2
        refine bodyPost_ret (v := R) (by rw [H.out]; simp [results, Try.results45, go_sem]) rfl ⟨rfl, ?_⟩
        first | exact ((Below.refl _ _).alloc (Nat.le_refl _) _).alloc (by simp) _ | exact below_drewN (((Below.refl _ _).alloc (Nat.le_refl _) _).alloc (by simp) _) _ | exact (((below_drewN (((Below.refl _ _).alloc (Nat.le_refl _) _).alloc (by simp) _) _).setCell (Nat.le_refl _) _).setCell (Nat.le_refl _) _).setCell (Nat.le_refl _) _
      · clear q3 FF F1 F2 F3 F4 m3 hi3 hVi hV hv
        go_enter Try.func45, Try.ntmps45
        go_wp2_with (first | (go_at_call 49; (with_reducible refine (m1 _).mono ?_); rintro e w' ⟨rfl, rfl⟩) | (go_at_call 49; (with_reducible refine (m2 _).mono ?_); rintro e w' ⟨rfl, rfl⟩))
        go_quiet (fail)
        go_wp2
        refine bodyPost_ret (v := R) (by rw [H.out]; simp [results, Try.results45, go_sem]) rfl ⟨rfl, ?_⟩
        first | exact ((Below.refl _ _).alloc (Nat.le_refl _) _).alloc (by simp) _ | exact below_drewN (((Below.refl _ _).alloc (Nat.le_refl _) _).alloc (by simp) _) _ | exact (((below_drewN (((Below.refl _ _).alloc (Nat.le_refl _) _).alloc (by simp) _) _).setCell (Nat.le_refl _) _).setCell (Nat.le_refl _) _).setCell (Nat.le_refl _) _
  cases x3
  · simp only [Bool.false_eq_true, false_iff] at q3
    have H := Lib.hid (FF.out (by unfold nextN; rw [if_neg g0, if_neg (by omega), if_neg (by omega), if_neg (by omega)]))
    clear q3 FF F1 F2 F3 F4 hi3
    rcases (by omega : b0 < 192 ∨ (240 ≤ b0 ∧ b0 < 248) ∨ 248 ≤ b0) with h | h | h
    all_goals
      go_enter Try.func45, Try.ntmps45
      go_wp2_with (first | (go_at_call 49; (with_reducible refine (m1 _).mono ?_); rintro e w' ⟨rfl, rfl⟩) | (go_at_call 49; (with_reducible refine (m2 _).mono ?_); rintro e w' ⟨rfl, rfl⟩) | (go_at_call 49; (with_reducible refine (m3 _).mono ?_); rintro e w' ⟨rfl, rfl⟩))
      refine bodyPost_ret (v := R) (by rw [H.out]; simp [results, Try.results45, go_sem]) rfl ⟨rfl, ?_⟩
      first | exact ((Below.refl _ _).alloc (Nat.le_refl _) _).alloc (by simp) _ | exact below_drewN (((Below.refl _ _).alloc (Nat.le_refl _) _).alloc (by simp) _) _ | exact (((below_drewN (((Below.refl _ _).alloc (Nat.le_refl _) _).alloc (by simp) _) _).setCell (Nat.le_refl _) _).setCell (Nat.le_refl _) _).setCell (Nat.le_refl _) _
  simp only [true_iff] at q3
  have hs4 : 4 ≤ s.size := by omega
  have hi3 := hi3 q3.1
  by_cases gC : 240 ≤ b0 ∧ b0 < 248
  · have gC' : (240 : Int) ≤ b0 ∧ (b0 : Int) < 248 := by omega
    obtain ⟨V, hV⟩ : ∃ V : Nat, V = (b0 - 240) * 262144 + (b1 - 128) * 4096 + (b2 - 128) * 64 + (b3 - 128) := ⟨_, rfl⟩
    have hVi : (V : Int) = ((b0 : Int) - 240) * 262144 + ((b1 : Int) - 128) * 4096 + ((b2 : Int) - 128) * 64 + b3 - 128 := by omega
    by_cases hv : 65536 ≤ V ∧ V ≤ 1114111
    · have H := Lib.hid (F4.out V (by unfold nextN; rw [if_neg g0, if_neg (by omega), if_neg (by omega), if_pos (by omega), ← hV, if_pos hv]))
      rw [hVi] at H
      have e1 : (65536 : Int) ≤ ((b0 : Int) - 240) * 262144 + ((b1 : Int) - 128) * 4096 + ((b2 : Int) - 128) * 64 + b3 - 128 := by omega
      have e2 : ((b0 : Int) - 240) * 262144 + ((b1 : Int) - 128) * 4096 + ((b2 : Int) - 128) * 64 + b3 - 128 ≤ 1114111 := by omega
      clear FF F1 F2 F3 F4 hVi hV hv
      go_enter Try.func45, Try.ntmps45
      go_wp2_with (first | (go_at_call 49; (with_reducible refine (m1 _).mono ?_); rintro e w' ⟨rfl, rfl⟩) | (go_at_call 49; (with_reducible refine (m2 _).mono ?_); rintro e w' ⟨rfl, rfl⟩) | (go_at_call 49; (with_reducible refine (m3 _).mono ?_); rintro e w' ⟨rfl, rfl⟩))
      go_quiet (fail)
      go_wp2
      refine bodyPost_ret (v := R) (by rw [H.out]; simp [results, Try.results45, go_sem]) rfl ⟨rfl, ?_⟩
      first | exact ((Below.refl _ _).alloc (Nat.le_refl _) _).alloc (by simp) _ | exact below_drewN (((Below.refl _ _).alloc (Nat.le_refl _) _).alloc (by simp) _) _ | exact (((below_drewN (((Below.refl _ _).alloc (Nat.le_refl _) _).alloc (by simp) _) _).setCell (Nat.le_refl _) _).setCell (Nat.le_refl _) _).setCell (Nat.le_refl _) _
    · have H := Lib.hid (FF.out (by unfold nextN; rw [if_neg g0, if_neg (by omega), if_neg (by omega), if_pos (by omega), ← hV, if_neg hv]))
      by_cases e1 : (65536 : Int) ≤ ((b0 : Int) - 240) * 262144 + ((b1 : Int) - 128) * 4096 + ((b2 : Int) - 128) * 64 + b3 - 128
      · have e2 : ¬ ((b0 : Int) - 240) * 262144 + ((b1 : Int) - 128) * 4096 + ((b2 : Int) - 128) * 64 + b3 - 128 ≤ 1114111 := by omega
        clear FF F1 F2 F3 F4 hVi hV hv
        go_enter Try.func45, Try.ntmps45
        go_wp2_with (first | (go_at_call 49; (with_reducible refine (m1 _).mono ?_); rintro e w' ⟨rfl, rfl⟩) | (go_at_call 49; (with_reducible refine (m2 _).mono ?_); rintro e w' ⟨rfl, rfl⟩) | (go_at_call 49; (with_reducible refine (m3 _).mono ?_); rintro e w' ⟨rfl, rfl⟩))
        go_quiet (fail)
        go_wp2
        refine bodyPost_ret (v := R) (by rw [H.out]; simp [results, Try.results45, go_sem]) rfl ⟨rfl, ?_⟩
        first | exact ((Below.refl _ _).alloc (Nat.le_refl _) _).alloc (by simp) _ | exact below_drewN (((Below.refl _ _).alloc (Nat.le_refl _) _).alloc (by simp) _) _ | exact (((below_drewN (((Below.refl _ _).alloc (Nat.le_refl _) _).alloc (by simp) _) _).setCell (Nat.le_refl _) _).setCell (Nat.le_refl _) _).setCell (Nat.le_refl _) _
      · clear FF F1 F2 F3 F4 hVi hV hv
        go_enter Try.func45, Try.ntmps45
        go_wp2_with (first | (go_at_call 49; (with_reducible refine (m1 _).mono ?_); rintro e w' ⟨rfl, rfl⟩) | (go_at_call 49; (with_reducible refine (m2 _).mono ?_); rintro e w' ⟨rfl, rfl⟩) | (go_at_call 49; (with_reducible refine (m3 _).mono ?_); rintro e w' ⟨rfl, rfl⟩))
        go_quiet (fail)
        go_wp2
        refine bodyPost_ret (v := R) (by rw [H.out]; simp [results, Try.results45, go_sem]) rfl ⟨rfl, ?_⟩
        first | exact ((Below.refl _ _).alloc (Nat.le_refl _) _).alloc (by simp) _ | exact below_drewN (((Below.refl _ _).alloc (Nat.le_refl _) _).alloc (by simp) _) _ | exact (((below_drewN (((Below.refl _ _).alloc (Nat.le_refl _) _).alloc (by simp) _) _).setCell (Nat.le_refl _) _).setCell (Nat.le_refl _) _).setCell (Nat.le_refl _) _
  · have H := Lib.hid (FF.out (by unfold nextN; rw [if_neg g0, if_neg (by omega), if_neg (by omega), if_neg (by omega)]))
    clear FF F1 F2 F3 F4
    rcases (by omega : b0 < 192 ∨ 248 ≤ b0) with h | h
    all_goals
      go_enter Try.func45, Try.ntmps45
      go_wp2_with (first | (go_at_call 49; (with_reducible refine (m1 _).mono ?_); rintro e w' ⟨rfl, rfl⟩) | (go_at_call 49; (with_reducible refine (m2 _).mono ?_); rintro e w' ⟨rfl, rfl⟩) | (go_at_call 49; (with_reducible refine (m3 _).mono ?_); rintro e w' ⟨rfl, rfl⟩))
      refine bodyPost_ret (v := R) (by rw [H.out]; simp [results, Try.results45, go_sem]) rfl ⟨rfl, ?_⟩
      first | exact ((Below.refl _ _).alloc (Nat.le_refl _) _).alloc (by simp) _ | exact below_drewN (((Below.refl _ _).alloc (Nat.le_refl _) _).alloc (by simp) _) _ | exact (((below_drewN (((Below.refl _ _).alloc (Nat.le_refl _) _).alloc (by simp) _) _).setCell (Nat.le_refl _) _).setCell (Nat.le_refl _) _).setCell (Nat.le_refl _) _
end Go.Proofs.Ytahcbgllnoopgaa
