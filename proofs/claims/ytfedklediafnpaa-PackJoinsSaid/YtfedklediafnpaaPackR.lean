/-
  The walks of the document's answer for layer 1 (package haymowref01). By an AI agent.
-/
import Derived.Test.YtfedklediafnpaaPackW
namespace Go.Proofs.Ytfedklediafnpaa
open Go.RowKit

set_option maxHeartbeats 400000 in
theorem rget_any (w : World) (l : List UInt8) (at_ n : Nat) (hl : at_ + n ≤ l.length) (hm : l.length ≤ 9223372036854775807) (hn : n ≤ 8) :
    Calls Try.prog 18 #[.string ⟨l.toArray⟩, .int .i64 (at_ : Int), .int .i64 (n : Int)] w fun e w' => e = .returned (.int .u64 (Pk.val ((l.drop at_).take n) : Nat)) ∧ w = w' := by
  go_enter Try.func18, Try.ntmps18
  go_wp2
  go_loop [7, 8] (fun x i => ∃ j : Nat, j ≤ n ∧ i = .int .i64 j ∧ x = .int .u64 (Pk.val ((l.drop at_).take j) : Nat)) (fun _ i => n - (intOf i).toNat)
  case atStart => exact ⟨0, Nat.zero_le _, rfl, rfl⟩
  case round =>
    obtain ⟨j, hj, rfl, rfl⟩ := hrel
    by_cases hjl : j < n
    · have hget := ba_get l (at_ + j) (by omega)
      have hvl := Pk.val_small ((l.drop at_).take j) (by rw [List.length_take]; omega)
      have HV := Lib.hid (Pk.val_step (l.drop at_) j (by rw [List.length_drop]; omega))
      rw [show (l.drop at_).getD j 0 = l[at_ + j]'(by omega) by simp [List.getD_eq_getElem?_getD, List.getElem?_eq_getElem (show at_ + j < l.length by omega)]] at HV
      generalize l[at_ + j]'(by omega) = ch at *
      generalize Pk.val ((l.drop at_).take j) = V at *
      have hch : ch.toNat < 256 := ch.toNat_lt
      have hlt' : (at_ : Int) + j < l.length := by omega
      go_wp2
      go_round
      case rel => exact ⟨j + 1, by omega, by go_num, by rw [HV.out]; go_num⟩
      case measure => simp [intOf]; omega
    · obtain rfl : j = n := by omega
      go_wp2
      go_ret
      exact ⟨rfl, rfl⟩

set_option maxHeartbeats 1000000 in
theorem runpack_any (w : World) (u : Value) (B : Nat) (l : List UInt8) (ws : List Int) (hm : l.length ≤ 9223372036854775807) (hu : Is .i64 w B u ws) (hB : B ≤ w.heap.size) (hn : ws.length ≤ 100000) :
    Calls Try.prog 9 #[.string ⟨l.toArray⟩, u] w fun e w' => ∃ x, e = .returned (.tuple #[x, .int .i64 (Pk.uerr l ws : Nat)]) ∧ w'.ownsRow w.heap.size 37 1 x (Pk.unpacked l ws).length ((Pk.unpacked l ws).map fun n : Nat => .int .u64 (n : Int)) ∧ Below w.heap.size w w' := by
  obtain ⟨A1, c1, rfl, hc1, hm1, hcell1⟩ := hu.open_
  clear hu
  go_enter Try.func9, Try.ntmps9
  go_wp2
  go_loop [6, 7] (fun s i => ∃ k : Nat, k ≤ ws.length ∧ i = .int .i64 k ∧ (∀ x ∈ ws.take k, Pk.isW x = true) ∧ s = .int .i64 (Pk.need (ws.take k) : Nat)) (fun _ i => ws.length - (intOf i).toNat)
  case atStart => exact ⟨0, Nat.zero_le _, rfl, by simp, rfl⟩
  case round =>
    obtain ⟨k, hk, rfl, hall, rfl⟩ := hrel
    by_cases hlt : k < ws.length
    · obtain ⟨b, off, rfl, hb, hx⟩ := hcell1 k hlt
      have hnl := Pk.need_le (ws.take k) hall
      have hlk : (ws.take k).length ≤ 100000 := by rw [List.length_take]; omega
      have HN := Lib.hid (Pk.need_snoc ws k hlt)
      have HA := Lib.hid hall
      generalize hwk : ws[k] = wd at *
      have HW := Lib.hid hwk
      generalize Pk.need (ws.take k) = R at *
      clear hall hcell1 hwk
      by_cases hw : Pk.isW wd = true
      · have hwd := (Pk.isW_iff wd).1 hw
        obtain ⟨wn, rfl⟩ := Int.eq_ofNat_of_zero_le (show 0 ≤ wd by omega)
        have Hw := Lib.hid hw
        have hw1 : ¬ (wn : Int) < 1 := by omega
        have hw8 : ¬ (8 : Int) < wn := by omega
        clear hw
        go_wp2
        go_round
        case rel =>
          refine ⟨k + 1, by omega, by go_num, ?_, by rw [HN.out]; simp⟩
          intro x hx
          rw [List.take_succ_eq_append_getElem hlt] at hx
          rcases List.mem_append.1 hx with hx | hx
          · exact HA.out x hx
          · rw [List.mem_singleton.1 hx, HW.out]; exact Hw.out
        case measure => simp [intOf]; omega
      · have hw' : Pk.isW wd = false := by simpa using hw
        have HE := Lib.hid (show Pk.uerr l ws = 1 by
          unfold Pk.uerr
          rw [if_neg]
          intro hh
          rw [List.all_eq_true] at hh
          have := hh ws[k] (List.getElem_mem hlt)
          rw [HW.out, hw'] at this
          cases this)
        have HK := Lib.hid (show Pk.unpacked l ws = [] by unfold Pk.unpacked; rw [HE.out]; rfl)
        have hww : wd < 1 ∨ 8 < wd := by
          rcases Decidable.em (1 ≤ wd ∧ wd ≤ 8) with h | h
          · exact absurd ((Pk.isW_iff wd).2 h) hw
          · omega
        clear hw hw'
        rcases hww with h1 | h1
        · go_wp2
          go_ret2
          exact ⟨_, by rw [HE.out]; rfl, by rw [HK.out]; exact World.ownsRow_nil _ _ _ _, Below.refl _ _⟩
        · have h2 : ¬ wd < 1 := by omega
          go_wp2
          go_ret2
          exact ⟨_, by rw [HE.out]; rfl, by rw [HK.out]; exact World.ownsRow_nil _ _ _ _, Below.refl _ _⟩
    · obtain rfl : k = ws.length := by omega
      rw [List.take_length] at hall ⊢
      have hnl := Pk.need_le ws hall
      have HALL := Lib.hid (show ws.all Pk.isW = true by rw [List.all_eq_true]; exact hall)
      have HA := Lib.hid hall
      clear hall
      by_cases hsh : l.length < Pk.need ws
      · have HE := Lib.hid (show Pk.uerr l ws = 2 by unfold Pk.uerr; rw [HALL.out, if_pos hsh]; rfl)
        have HK := Lib.hid (show Pk.unpacked l ws = [] by unfold Pk.unpacked; rw [HE.out]; rfl)
        generalize Pk.need ws = R at *
        have hsh' : (l.length : Int) < R := by omega
        go_wp2
        go_ret2
        exact ⟨_, by rw [HE.out]; rfl, by rw [HK.out]; exact World.ownsRow_nil _ _ _ _, Below.refl _ _⟩
      · have HE := Lib.hid (show Pk.uerr l ws = 0 by unfold Pk.uerr; rw [HALL.out, if_neg hsh]; rfl)
        have HK := Lib.hid (show Pk.unpacked l ws = Pk.nums l ws by unfold Pk.unpacked; rw [HE.out]; rfl)
        have HND := Lib.hid (fun k => Pk.need_take_le ws k)
        generalize Pk.need ws = R at *
        have hsh' : ¬ (l.length : Int) < R := by omega
        go_wp2
        go_loopw [8, 9, 10] (fun x p i wq => ∃ k : Nat, k ≤ ws.length ∧ i = .int .i64 k ∧ p = .int .i64 (Pk.need (ws.take k) : Nat) ∧ wq.ownsRow w.heap.size 37 1 x k ((Pk.nums l (ws.take k)).map fun n : Nat => .int .u64 (n : Int)) ∧ Below w.heap.size w wq) (fun _ _ i _ => ws.length - (intOf i).toNat)
        case atStart => exact ⟨0, Nat.zero_le _, rfl, rfl, World.ownsRow_nil _ _ _ _, Below.refl _ _⟩
        case round =>
          obtain ⟨k, hk, rfl, rfl, hown, hbq⟩ := hrel
          by_cases hlt : k < ws.length
          · obtain ⟨b1, off1, rfl, hb1, hx⟩ := hcell1 k hlt
            have hx1 := (hbq.cell (p := ⟨b1, off1 + k, none⟩) (Nat.lt_of_lt_of_le hb1 hB)).trans hx
            have hwd := (Pk.isW_iff _).1 (HA.out ws[k] (List.getElem_mem hlt))
            have HN := Lib.hid (Pk.need_snoc ws k hlt)
            have HS := Lib.hid (Pk.nums_snoc l ws k hlt)
            have hnd := HND.out (k + 1)
            rw [HN.out] at hnd
            generalize ws[k] = wd at *
            obtain ⟨wn, rfl⟩ := Int.eq_ofNat_of_zero_le (show 0 ≤ wd by omega)
            rw [Int.toNat_natCast] at hnd HN HS
            generalize hNd : Pk.need (ws.take k) = Nd at *
            clear hcell1 hNd
            go_wp2_with fail
            refine (rget_any _ l Nd wn (by omega) hm (by omega)).mono ?_
            rintro e w' ⟨rfl, rfl⟩
            generalize Pk.val ((l.drop Nd).take wn) = V at *
            go_wp2_with (at_builtin; refine stop_ ?_)
            refine wpList_append_one rfl _ _ rfl rfl rfl rfl Try.underlying24 infoU64 rfl hown rfl (by rw [maxLen_eq]; omega) (by omega) hbq.size ?_
            intro v' w' hown' hgr
            have hb' := hbq.grown hgr hbq.size (fun g hg => (hown.lt g hg).1)
            have hx2 := (hb'.cell (p := ⟨b1, off1 + k, none⟩) (Nat.lt_of_lt_of_le hb1 hB)).trans hx
            clear hown hgr hx1 hx
            go_wp2
            go_roundw
            case rel => exact ⟨k + 1, by omega, by go_num, by rw [HN.out]; go_num, by rw [HS.out, List.map_append]; exact hown', hb'⟩
            case measure => simp [intOf]; omega
          · obtain rfl : k = ws.length := by omega
            rw [List.take_length] at hown
            go_wp2
            go_ret2
            exact ⟨_, by rw [HE.out]; rfl, by rw [HK.out, Pk.length_nums]; exact hown, hbq⟩

def strLen : Value → Nat | .string s => s.size | _ => 0
set_option maxHeartbeats 400000 in
theorem rfill_any (w : World) (l : List UInt8) (hn : l.length ≤ 128) :
    Calls Try.prog 16 #[.string ⟨l.toArray⟩] w fun e w' => e = .returned (.string ⟨(Pk.pad 128 l).toArray⟩) ∧ w = w' := by
  go_enter Try.func16, Try.ntmps16
  go_wp2
  go_loop [0] (fun y => ∃ k : Nat, l.length ≤ k ∧ k ≤ 128 ∧ y = .string ⟨(Pk.pad k l).toArray⟩) (fun y => 128 - strLen y)
  case atStart => exact ⟨l.length, by omega, by omega, by simp [Pk.pad]⟩
  case round =>
    obtain ⟨k, hk, hk', rfl⟩ := hrel
    have hp := Pk.length_pad k l hk
    generalize hpk : Pk.pad k l = p at *
    have HP := Lib.hid hpk
    have HL := Lib.hid hp
    clear hpk hp
    by_cases hlt : k < 128
    · have hlt' : (p.length : Int) < 128 := by rw [HL.out]; omega
      go_wp2
      refine ⟨⟨k + 1, by omega, by omega, ?_⟩, ?_⟩
      · rw [show (⟨#[0]⟩ : ByteArray) = ⟨[0].toArray⟩ from rfl, ba_append, ← HP.out]
        unfold Pk.pad
        rw [List.append_assoc, show k + 1 - l.length = (k - l.length) + 1 by omega, List.replicate_succ']
      · simp only [strLen, ByteArray.size_append, ba_size, HL.out]
        show 128 - (k + 1) < 128 - k
        omega
    · have hlt' : ¬ (p.length : Int) < 128 := by rw [HL.out]; omega
      obtain rfl : k = 128 := by omega
      go_wp2
      go_ret
      exact ⟨by rw [HP.out]; rfl, rfl⟩
end Go.Proofs.Ytfedklediafnpaa
