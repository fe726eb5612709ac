/-
  The walks of the document's answer for layer 1 (package haymowref01). By an AI agent.
-/
import Derived.Test.YtpgibmffgliibaaPackW
namespace Go.Proofs.Ytpgibmffgliibaa
open Go.RowKit

set_option maxHeartbeats 400000 in
theorem rget_any (w : World) (l : List UInt8) (at_ n : Nat) (hl : at_ + n ≤ l.length) (hm : l.length ≤ 9223372036854775807) (hn : n ≤ 8) :
    Calls Try.prog 35 #[.string ⟨l.toArray⟩, .int .i64 (at_ : Int), .int .i64 (n : Int)] w fun e w' => e = .returned (.int .u64 (Pk.val ((l.drop at_).take n) : Nat)) ∧ w = w' := by
  go_enter Try.func35, Try.ntmps35
  go_wp2
  go_loop [7, 8] (fun x i => ∃ j : Nat, j ≤ n ∧ i = .int .i64 j ∧ x = .int .u64 (Pk.val ((l.drop at_).take j) : Nat)) (fun _ i => n - (intOf i).toNat)
  case atStart => exact ⟨0, Nat.zero_le _, rfl, rfl⟩
  case round =>
    obtain ⟨j, hj, rfl, rfl⟩ := hrel
    by_cases hjl : j < n
    · have hget := ba_get l (at_ + j) (by omega)
      have hvl := Pk.val_small ((l.drop at_).take j) (by rw [List.length_take]; omega)
      have HV := Lib.hid (Pk.val_step (l.drop at_) j (by rw [List.length_drop]; omega))
      rw [show (l.drop at_).getD j 0 = l[at_ + j]'(by omega) by simp [List.getD_eq_getElem?_getD, List.getElem?_eq_getElem (show at_ + j < l.length by omega)]] at HV
      generalize l[at_ + j]'(by omega) = ch at *
      generalize Pk.val ((l.drop at_).take j) = V at *
      have hch : ch.toNat < 256 := ch.toNat_lt
      have hlt' : (at_ : Int) + j < l.length := by omega
      go_wp2
      go_round
      case rel => exact ⟨j + 1, by omega, by go_num, by rw [HV.out]; go_num⟩
      case measure => simp [intOf]; omega
    · obtain rfl : j = n := by omega
      go_wp2
      go_ret
      exact ⟨rfl, rfl⟩


def strLen : Value → Nat | .string s => s.size | _ => 0
set_option maxHeartbeats 400000 in
theorem rfill_any (w : World) (l : List UInt8) (hn : l.length ≤ 128) :
    Calls Try.prog 38 #[.string ⟨l.toArray⟩] w fun e w' => e = .returned (.string ⟨(Pk.pad 128 l).toArray⟩) ∧ w = w' := by
  go_enter Try.func38, Try.ntmps38
  go_wp2
  go_loop [0] (fun y => ∃ k : Nat, l.length ≤ k ∧ k ≤ 128 ∧ y = .string ⟨(Pk.pad k l).toArray⟩) (fun y => 128 - strLen y)
  case atStart => exact ⟨l.length, by omega, by omega, by simp [Pk.pad]⟩
  case round =>
    obtain ⟨k, hk, hk', rfl⟩ := hrel
    have hp := Pk.length_pad k l hk
    generalize hpk : Pk.pad k l = p at *
    have HP := Lib.hid hpk
    have HL := Lib.hid hp
    clear hpk hp
    by_cases hlt : k < 128
    · have hlt' : (p.length : Int) < 128 := by rw [HL.out]; omega
      go_wp2
      refine ⟨⟨k + 1, by omega, by omega, ?_⟩, ?_⟩
      · rw [show (⟨#[0]⟩ : ByteArray) = ⟨[0].toArray⟩ from rfl, ba_append, ← HP.out]
        unfold Pk.pad
        rw [List.append_assoc, show k + 1 - l.length = (k - l.length) + 1 by omega, List.replicate_succ']
      · simp only [strLen, ByteArray.size_append, ba_size, HL.out]
        show 128 - (k + 1) < 128 - k
        omega
    · have hlt' : ¬ (p.length : Int) < 128 := by rw [HL.out]; omega
      obtain rfl : k = 128 := by omega
      go_wp2
      go_ret
      exact ⟨by rw [HP.out]; rfl, rfl⟩
end Go.Proofs.Ytpgibmffgliibaa
