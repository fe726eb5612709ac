/-
  The walks of the document's Put, Of and Get (package haymowref01), and strings one behind the other. By an AI agent.
-/
import Derived.Test.YtieajlpkiheebaaDoorPackR
namespace Go.Proofs.YtieajlpkiheebaaDoor
open Go.RowKit

theorem conv1 (w : World) (c : UInt8) (z : Int) (hz : z = (c.toNat : Int)) :
    (convert 26 9 (.slice (some ⟨w.heap.size, 0, none⟩) 1 1)).run Tryd.prog (w.alloc (.cells #[.int .u8 z] 5)) = .ok (.string ⟨[c].toArray⟩) (w.alloc (.cells #[.int .u8 z] 5)) := by
  subst hz
  exact run_string_of (Bs.lit w 5 #[.int .u8 (c.toNat : Int)] [c] 1 rfl rfl (by simp [maxLen])) 26 9 5 Tryd.underlying26 Tryd.underlying5 Tryd.underlying9

set_option maxHeartbeats 1000000 in
theorem rput_any (v n : Nat) (w : World) (hv : v < 18446744073709551616) (hn : n ≤ 8) :
    Calls Tryd.prog 38 #[.int .u64 (v : Int), .int .i64 (n : Int)] w fun e w' => ∃ b, e = .returned (.tuple #[.string ⟨(Pk.be v n).toArray⟩, .bool b]) ∧ Below w.heap.size w w' := by
  go_enter Tryd.func38, Tryd.ntmps38
  go_wp2
  go_loopw [0, 6, 7] (fun x s i wr => ∃ k : Nat, k ≤ n ∧ i = .int .i64 k ∧ x = .int .u64 ((v / 256 ^ k : Nat) : Int) ∧ s = .string ⟨(Pk.be v k).toArray⟩ ∧ Below w.heap.size w wr) (fun _ _ i _ => n - (intOf i).toNat)
  case atStart => exact ⟨0, Nat.zero_le _, rfl, by simp, rfl, Below.refl _ _⟩
  case round =>
    obtain ⟨k, hk, rfl, rfl, rfl, hb⟩ := hrel
    by_cases hlt : k < n
    · have hcv := conv1 wr (UInt8.ofNat (v / 256 ^ k))
      have HAP := Lib.hid (ba_append [UInt8.ofNat (v / 256 ^ k)] (Pk.be v k))
      have HBE := Lib.hid (show [UInt8.ofNat (v / 256 ^ k)] ++ Pk.be v k = Pk.be v (k + 1) from rfl)
      have HQ := Lib.hid (show v / 256 ^ (k + 1) = v / 256 ^ k / 256 by rw [Nat.pow_succ, Nat.div_div_eq_div_mul])
      have hz1 : (⟨(Pk.be v k).toArray⟩ : ByteArray).size ≤ 8 := by rw [ba_size, Pk.length_be]; omega
      have hz2 : (⟨[UInt8.ofNat (v / 256 ^ k)].toArray⟩ : ByteArray).size ≤ 1 := by rw [ba_size]; simp
      have hq : v / 256 ^ k < 18446744073709551616 := Nat.lt_of_le_of_lt (Nat.div_le_self _ _) hv
      have hof : ((UInt8.ofNat (v / 256 ^ k)).toNat : Int) = ((v / 256 ^ k : Nat) : Int) % 256 := by rw [UInt8.toNat_ofNat']; omega
      rw [hof] at hcv
      have hcv := hcv _ rfl
      generalize (⟨[UInt8.ofNat (v / 256 ^ k)].toArray⟩ : ByteArray) = S2 at *
      generalize (⟨(Pk.be v k).toArray⟩ : ByteArray) = S1 at *
      generalize v / 256 ^ k = V at *
      clear hof
      go_wp2
      go_roundw
      case rel => exact ⟨k + 1, by omega, by go_num, by rw [HQ.out]; go_num, by rw [← HBE.out, ← HAP.out], hb.alloc hb.size _⟩
      case measure => simp [intOf]; omega
    · obtain rfl : k = n := by omega
      generalize hs : (⟨(Pk.be v k).toArray⟩ : ByteArray) = S1
      have HS := Lib.hid hs
      generalize v / 256 ^ k = V
      clear hs
      go_wp2
      go_ret2
      exact ⟨_, by rw [HS.out]; rfl, hb⟩

set_option maxHeartbeats 400000 in
theorem rof_any (v n : Nat) (w : World) (hv : v < 18446744073709551616) (hn : n ≤ 8) :
    Calls Tryd.prog 29 #[.int .u64 (v : Int), .int .i64 (n : Int)] w fun e w' => e = .returned (.string ⟨(Pk.be v n).toArray⟩) ∧ Below w.heap.size w w' := by
  go_enter Tryd.func29, Tryd.ntmps29
  go_wp2_with fail
  refine (rput_any v n _ hv hn).mono ?_
  rintro e w1 ⟨b, rfl, hb⟩
  go_wp2
  go_ret
  exact ⟨rfl, hb⟩
theorem rof_eq (v n : Nat) (z m : Int) (hz : z = v) (hm : m = n) (w : World) (hv : v < 18446744073709551616) (hn : n ≤ 8) :
    Calls Tryd.prog 29 #[.int .u64 z, .int .i64 m] w fun e w' => e = .returned (.string ⟨(Pk.be v n).toArray⟩) ∧ Below w.heap.size w w' := by
  subst hz hm; exact rof_any v n w hv hn
theorem rget_eq (w : World) (l : List UInt8) (at_ n : Nat) (z m : Int) (hz : z = at_) (hm' : m = n) (hl : at_ + n ≤ l.length) (hm : l.length ≤ 9223372036854775807) (hn : n ≤ 8) :
    Calls Tryd.prog 32 #[.string ⟨l.toArray⟩, .int .i64 z, .int .i64 m] w fun e w' => e = .returned (.int .u64 (Pk.val ((l.drop at_).take n) : Nat)) ∧ w = w' := by
  subst hz hm'; exact rget_any w l at_ n hl hm hn
/-- Two strings one behind the other. -/
theorem run_cat (l m : List UInt8) (h : l.length + m.length ≤ 1000000) (W : World) : (binOp .add 9 (.string ⟨l.toArray⟩) (.string ⟨m.toArray⟩)).run Tryd.prog W = .ok (.string ⟨(l ++ m).toArray⟩) W := by
  rw [← ba_append l m]
  simp [go_sem]
  omega
end Go.Proofs.YtieajlpkiheebaaDoor
