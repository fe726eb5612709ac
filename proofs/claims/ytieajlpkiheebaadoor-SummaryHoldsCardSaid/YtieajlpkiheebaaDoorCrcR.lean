/-
  The walks of the document's answer for layer 2 (package haymowref02). By an AI agent.
-/
import Derived.Test.YtieajlpkiheebaaDoorCrcW
namespace Go.Proofs.YtieajlpkiheebaaDoor
open Go.RowKit

set_option maxHeartbeats 400000 in
theorem rsteps_any (w : World) (x n : Nat) (hx : x < 4294967296) (hn : n ≤ 9223372036854775807) :
    Calls Tryd.prog 39 #[.int .u32 (x : Int), .int .i64 (n : Int)] w fun e w' => e = .returned (.int .u32 (Crc.steps x n : Nat)) ∧ w = w' := by
  go_enter Tryd.func39, Tryd.ntmps39
  go_wp2
  go_loop [0, 5] (fun y i => ∃ k : Nat, k ≤ n ∧ i = .int .i64 k ∧ y = .int .u32 (Crc.steps x k : Nat)) (fun _ i => n - (intOf i).toNat)
  case atStart => exact ⟨0, Nat.zero_le _, rfl, rfl⟩
  case round =>
    obtain ⟨k, hk, rfl, rfl⟩ := hrel
    by_cases hlt : k < n
    · have H := Lib.hid (show Crc.steps x (k + 1) = Crc.bit (Crc.steps x k) from rfl)
      have hy := Crc.steps_lt x k hx
      generalize Crc.steps x k = y at *
      have e1 := u32_xor_nat (y / 2) 2197175160 (by omega) (by omega)
      by_cases ho : y % 2 = 1
      · have ho' : ((y : Int) % 2 == 1) = true := by rw [beq_iff_eq]; omega
        go_wp2
        go_round
        case rel => exact ⟨k + 1, by omega, by go_num, by rw [H.out]; unfold Crc.bit; rw [if_pos ho]; exact congrArg (Value.int .u32) (by simpa using e1)⟩
        case measure => simp [intOf]; omega
      · have ho' : ((y : Int) % 2 == 1) = false := by rw [beq_eq_false_iff_ne]; omega
        go_wp2
        go_round
        case rel => exact ⟨k + 1, by omega, by go_num, by rw [H.out]; unfold Crc.bit; rw [if_neg ho]; simp⟩
        case measure => simp [intOf]; omega
    · obtain rfl : k = n := by omega
      go_wp2
      go_ret
      exact ⟨rfl, rfl⟩

set_option maxHeartbeats 400000 in
theorem rsum_any (w : World) (l : List UInt8) (hn : l.length ≤ 9223372036854775807) :
    Calls Tryd.prog 34 #[.string ⟨l.toArray⟩] w fun e w' => e = .returned (.int .u32 (Crc.sum l : Nat)) ∧ w = w' := by
  go_enter Tryd.func34, Tryd.ntmps34
  go_wp2
  go_loop [3, 4] (fun y i => ∃ k : Nat, k ≤ l.length ∧ i = .int .i64 k ∧ y = .int .u32 (Crc.run 4294967295 (l.take k) : Nat)) (fun _ i => l.length - (intOf i).toNat)
  case atStart => exact ⟨0, Nat.zero_le _, rfl, rfl⟩
  case round =>
    obtain ⟨k, hk, rfl, rfl⟩ := hrel
    have hR := Crc.run_lt (l.take k) 4294967295 (by omega)
    by_cases hlt : k < l.length
    · have H := Lib.hid (Crc.run_snoc 4294967295 l k hlt)
      generalize Crc.run 4294967295 (l.take k) = R at *
      have hget := ba_get l k hlt
      generalize l[k] = ch at *
      have hch : ch.toNat < 256 := ch.toNat_lt
      have e1 := u32_xor_nat R ch.toNat hR (by omega)
      have hX := Nat.xor_lt_two_pow (n := 32) hR (show ch.toNat < 2 ^ 32 by omega)
      rw [Crc.upd_steps] at H
      generalize R ^^^ ch.toNat = X at *
      go_wp2_with fail
      refine (rsteps_any _ X 8 hX (by omega)).mono ?_
      rintro e w' ⟨rfl, rfl⟩
      go_wp2
      go_round
      case rel => exact ⟨k + 1, by omega, by go_num, by rw [H.out]⟩
      case measure => simp [intOf]; omega
    · have H := Lib.hid (show Crc.sum l = 4294967295 - Crc.run 4294967295 (l.take k) by
        rw [List.take_of_length_le (by omega), Crc.not_sub _ (Crc.run_lt _ _ (by omega))]; rfl)
      go_wp2
      go_ret
      refine ⟨?_, rfl⟩
      rw [H.out]
      exact congrArg (fun z => Ending.returned (.int .u32 z)) (by omega)
def strLen : Value → Nat | .string s => s.size | _ => 0
set_option maxHeartbeats 400000 in
theorem rseal_any (w : World) (l : List UInt8) (hn : l.length ≤ 124) :
    Calls Tryd.prog 30 #[.string ⟨l.toArray⟩] w fun e w' => e = .returned (.string ⟨(Crc.sealed l).toArray⟩) ∧ Below w.heap.size w w' := by
  go_enter Tryd.func30, Tryd.ntmps30
  go_wp2
  go_loop [0] (fun y => ∃ k : Nat, l.length ≤ k ∧ k ≤ 124 ∧ y = .string ⟨(Crc.pad k l).toArray⟩) (fun y => 124 - strLen y)
  case atStart => exact ⟨l.length, by omega, by omega, by simp [Crc.pad]⟩
  case round =>
    obtain ⟨k, hk, hk', rfl⟩ := hrel
    have hp := Crc.length_pad k l hk
    generalize hpk : Crc.pad k l = p at *
    have HP := Lib.hid hpk
    have HL := Lib.hid hp
    clear hpk hp
    by_cases hlt : k < 124
    · have hlt' : (p.length : Int) < 124 := by rw [HL.out]; omega
      go_wp2
      refine ⟨⟨k + 1, by omega, by omega, ?_⟩, ?_⟩
      · rw [show (⟨#[0]⟩ : ByteArray) = ⟨[0].toArray⟩ from rfl, ba_append, ← HP.out]
        unfold Crc.pad
        rw [List.append_assoc, show k + 1 - l.length = (k - l.length) + 1 by omega, List.replicate_succ']
      · simp only [strLen, ByteArray.size_append, ba_size, HL.out]
        show 124 - (k + 1) < 124 - k
        omega
    · have hlt' : ¬ (p.length : Int) < 124 := by rw [HL.out]; omega
      go_wp2_with fail
      refine (rsum_any _ p (by rw [HL.out]; omega)).mono ?_
      rintro e w' ⟨rfl, rfl⟩
      have hS := Crc.sum_lt p
      have HS := Lib.hid (show Crc.sealed l = p ++ Crc.octs (Crc.sum p) by unfold Crc.sealed; rw [show Crc.pad 124 l = p by rw [← HP.out]; congr 1; omega])
      generalize Crc.sum p = S at *
      go_wp2
      have hB := Bs.lit w 5 #[.int .u8 ((S : Int) % 256), .int .u8 ((S : Int) / 256 % 256), .int .u8 ((S : Int) / 65536 % 256), .int .u8 ((S : Int) / 16777216)] (Crc.octs S) 4 (by simp [Crc.octs]; omega) rfl (by simp [maxLen])
      have hcv := run_string_of (P := Tryd.prog) hB 26 9 5 Tryd.underlying26 Tryd.underlying5 Tryd.underlying9
      rw [hcv]
      clear hcv hB
      have hsz : p.length + (Crc.octs S).length ≤ 9223372036854775807 := by rw [HL.out]; show k + 4 ≤ _; omega
      go_wp2
      go_ret
      exact ⟨by rw [HS.out, ← ba_append]; rfl, (Below.refl _ _).alloc (Nat.le_refl _) _⟩

set_option maxHeartbeats 400000 in
theorem rheld_any (w : World) (l : List UInt8) (hn : l.length ≤ 9223372036854775807) :
    Calls Tryd.prog 31 #[.string ⟨l.toArray⟩] w fun e w' => e = .returned (.bool (Crc.held l)) ∧ Below w.heap.size w w' := by
  by_cases hl : l.length = 128
  · have hl' : ((l.length : Int) == 128) = true := by rw [beq_iff_eq]; omega
    have hle : (124 : Nat) ≤ l.length := by omega
    have hle' : (124 : Int) ≤ l.length := by omega
    have HL := Lib.hid hl
    clear hl
    go_enter Tryd.func31, Tryd.ntmps31
    go_wp2_with fail
    rw [ba_take]
    refine (rseal_any _ (l.take 124) (by rw [List.length_take]; omega)).mono ?_
    rintro e w' ⟨rfl, hb⟩
    go_wp2
    go_ret
    exact ⟨by rw [← Crc.sealed_eq l HL.out]; rfl, hb⟩
  · have hl' : ((l.length : Int) == 128) = false := by rw [beq_eq_false_iff_ne]; omega
    have H := Lib.hid (show Crc.held l = false by unfold Crc.held; simp [hl])
    clear hl
    go_enter Tryd.func31, Tryd.ntmps31
    go_wp2
    go_ret
    exact ⟨by rw [H.out]; rfl, Below.refl _ _⟩
end Go.Proofs.YtieajlpkiheebaaDoor
