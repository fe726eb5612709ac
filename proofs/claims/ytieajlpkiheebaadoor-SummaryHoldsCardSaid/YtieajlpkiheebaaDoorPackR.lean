/-
  The walks of the document's answer for layer 1 (package haymowref01). By an AI agent.
-/
import Derived.Test.YtieajlpkiheebaaDoorPackW
namespace Go.Proofs.YtieajlpkiheebaaDoor
open Go.RowKit

set_option maxHeartbeats 400000 in
theorem rget_any (w : World) (l : List UInt8) (at_ n : Nat) (hl : at_ + n ≤ l.length) (hm : l.length ≤ 9223372036854775807) (hn : n ≤ 8) :
    Calls Tryd.prog 32 #[.string ⟨l.toArray⟩, .int .i64 (at_ : Int), .int .i64 (n : Int)] w fun e w' => e = .returned (.int .u64 (Pk.val ((l.drop at_).take n) : Nat)) ∧ w = w' := by
  go_enter Tryd.func32, Tryd.ntmps32
  go_wp2
  go_loop [7, 8] (fun x i => ∃ j : Nat, j ≤ n ∧ i = .int .i64 j ∧ x = .int .u64 (Pk.val ((l.drop at_).take j) : Nat)) (fun _ i => n - (intOf i).toNat)
  case atStart => exact ⟨0, Nat.zero_le _, rfl, rfl⟩
  case round =>
    obtain ⟨j, hj, rfl, rfl⟩ := hrel
    by_cases hjl : j < n
    · have hget := ba_get l (at_ + j) (by omega)
      have hvl := Pk.val_small ((l.drop at_).take j) (by rw [List.length_take]; omega)
      have HV := Lib.hid (Pk.val_step (l.drop at_) j (by rw [List.length_drop]; omega))
      rw [show (l.drop at_).getD j 0 = l[at_ + j]'(by omega) by simp [List.getD_eq_getElem?_getD, List.getElem?_eq_getElem (show at_ + j < l.length by omega)]] at HV
      generalize l[at_ + j]'(by omega) = ch at *
      generalize Pk.val ((l.drop at_).take j) = V at *
      have hch : ch.toNat < 256 := ch.toNat_lt
      have hlt' : (at_ : Int) + j < l.length := by omega
      go_wp2
      go_round
      case rel => exact ⟨j + 1, by omega, by go_num, by rw [HV.out]; go_num⟩
      case measure => simp [intOf]; omega
    · obtain rfl : j = n := by omega
      go_wp2
      go_ret
      exact ⟨rfl, rfl⟩


end Go.Proofs.YtieajlpkiheebaaDoor
