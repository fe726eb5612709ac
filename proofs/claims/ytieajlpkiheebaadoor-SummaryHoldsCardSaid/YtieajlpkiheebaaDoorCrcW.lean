/-
  The walks of package crc: what Half, Sum, Seal and Held of any octets answer, in every world that holds the table of halves. By an AI agent.
-/
import Derived.Test.YtieajlpkiheebaaDoorChecked
import Derived.Test.YtieajlpkiheebaaDoorBase
import Derived.Test.YtieajlpkiheebaaDoorCrcP
namespace Go.Proofs.YtieajlpkiheebaaDoor
open Go.RowKit

/-- The table of halves lies in memory. -/
def Halves (w : World) : Prop := ∀ k, k < 16 → w.cell? ⟨0, k, none⟩ = some (.int .u32 (Crc.half k : Nat))
theorem Halves.ext {w w' : World} (h : Halves w) (hb : Below w.heap.size w w') : Halves w' :=
  fun k hk => (hb.cell (World.block_lt_of_cell? w _ (h k hk))).trans (h k hk)
theorem Halves.alloc {w : World} (h : Halves w) (o : Obj) : Halves (w.alloc o) := h.ext ((Below.refl _ _).alloc (Nat.le_refl _) o)

/-- One step of four bits, as the walk spells it. -/
theorem stp_walk (w : World) (hG : Halves w) (X : Nat) (hX : X < 4294967296) :
    ∃ I : Nat, I < 16 ∧ bits .and .u32 (X : Int) 15 = (I : Int) ∧ w.cell? ⟨0, I, none⟩ = some (.int .u32 (Crc.half I : Nat)) ∧ bits .xor .u32 ((X : Int) / 16) (Crc.half I : Nat) = (Crc.stp X : Nat) := by
  refine ⟨X &&& 15, ?_, ?_, ?_, ?_⟩
  · have : X &&& 15 ≤ 15 := Nat.and_le_right; omega
  · exact u32_and_nat X 15 hX (by omega)
  · exact hG _ (by have : X &&& 15 ≤ 15 := Nat.and_le_right; omega)
  · have := u32_xor_nat (X / 16) (Crc.half (X &&& 15)) (by omega) (Crc.half_lt _)
    simpa [Crc.stp] using this

def halfI (n : Int) : Nat := if 0 ≤ n ∧ n < 16 then Crc.half n.toNat else 0


set_option maxHeartbeats 400000 in
theorem sum_any (w : World) (v : Value) (B : Nat) (ls : List (List UInt8)) (hG : Halves w) (h : Bss w B v ls) :
    Calls Tryd.prog 37 #[v] w fun e w' => e = .returned (.int .u32 (Crc.sum ls.flatten : Nat)) ∧ w = w' := by
  obtain ⟨A, c, rfl, hc, hm, hcell⟩ := h.open_
  clear h
  go_enter Tryd.func37, Tryd.ntmps37
  go_wp2
  go_loop [3, 10] (fun x i => ∃ k : Nat, k ≤ ls.length ∧ i = .int .i64 k ∧ x = .int .u32 (Crc.run 4294967295 (ls.take k).flatten : Nat)) (fun _ i => ls.length - (intOf i).toNat)
  case atStart => exact ⟨0, Nat.zero_le _, rfl, rfl⟩
  case round =>
    obtain ⟨k, hk, rfl, rfl⟩ := hrel
    have hRR := Crc.run_lt (ls.take k).flatten 4294967295 (by omega)
    generalize hr0 : Crc.run 4294967295 (ls.take k).flatten = R0 at *
    have HR0 := Lib.hid hr0
    clear hr0
    by_cases hlt : k < ls.length
    · obtain ⟨b, off, u, rfl, hb, hu, hB⟩ := hcell k hlt
      obtain ⟨A', c', rfl, hc', hm', hcell'⟩ := hB.open_
      generalize hl : ls[k] = l at *
      have HL := Lib.hid hl
      clear hl hB hcell
      go_wp2
      go_loop [3, 16] (fun x i => ∃ j : Nat, j ≤ l.length ∧ i = .int .i64 j ∧ x = .int .u32 (Crc.run R0 (l.take j) : Nat)) (fun _ i => l.length - (intOf i).toNat)
      case atStart => exact ⟨0, Nat.zero_le _, rfl, rfl⟩
      case round =>
        obtain ⟨j, hj, rfl, rfl⟩ := hrel
        by_cases hlt' : j < l.length
        · obtain ⟨b', off', rfl, hb', hx⟩ := hcell' j hlt'
          have HS := Lib.hid (Crc.run_snoc R0 l j hlt')
          have hR := Crc.run_lt (l.take j) R0 hRR
          generalize hl : l[j] = ch at *
          generalize hr : Crc.run R0 (l.take j) = R at *
          clear hl hr hcell' hu
          have hch : ch.toNat < 256 := ch.toNat_lt
          have e1 := u32_xor_nat R ch.toNat hR (by omega)
          have hX := Nat.xor_lt_two_pow (n := 32) hR (show ch.toNat < 2 ^ 32 by omega)
          unfold Crc.upd at HS
          generalize R ^^^ ch.toNat = X at *
          obtain ⟨I, hI, e2, hc1, e3⟩ := stp_walk w hG X hX
          have hY := Crc.stp_lt X hX
          generalize Crc.stp X = Y at *
          obtain ⟨J, hJ, e4, hc2, e5⟩ := stp_walk w hG Y hY
          generalize Crc.stp Y = Z at *
          clear hG
          go_wp2
          go_round
          case rel => exact ⟨j + 1, by omega, by go_num, by rw [HS.out]⟩
          case measure => simp [intOf]; omega
        · clear hG
          go_wp2
          go_round
          case rel =>
            exact ⟨k + 1, by omega, by go_num, by rw [Crc.flat_snoc ls k hlt, Crc.run_app, HR0.out, HL.out, List.take_of_length_le (by omega)]⟩
          case measure => simp [intOf]; omega
    · clear hG
      have e := u32_xor_nat 4294967295 R0 (by omega) hRR
      have E := Lib.hid e
      clear e
      go_wp2
      go_ret
      refine ⟨?_, rfl⟩
      rw [List.take_of_length_le (by omega)] at HR0
      unfold Crc.sum
      rw [HR0.out, ← E.out]
      rfl

set_option maxHeartbeats 400000 in
theorem held_any (w : World) (v : Value) (B : Nat) (l : List UInt8) (hG : Halves w) (h : Bs w B v l) (hB : B ≤ w.heap.size) :
    Calls Tryd.prog 26 #[v] w fun e w' => e = .returned (.bool (Crc.held l)) ∧ Below w.heap.size w w' := by
  obtain ⟨A, c, rfl, hc, hm, hcell⟩ := h.openD
  by_cases hl : l.length = 128
  · have h124 := (h.head (k := 124) (by omega)).more hB
    have hS := Lib.hid (fun t => sum_any (w.alloc (.cells #[.slice A 124 c] t)) _ _ [l.take 124] (hG.alloc _) (Bss.lit1 t h124))
    have HL := Lib.hid hl
    rw [hl] at hc hcell ⊢
    clear h h124 hG hl
    go_enter Tryd.func26, Tryd.ntmps26
    go_wp2_with fail
    refine (hS.out _).mono ?_
    rintro e w' ⟨rfl, rfl⟩
    have hs := Crc.sum_lt (l.take 124)
    simp only [List.flatten_cons, List.flatten_nil, List.append_nil]
    generalize hsm : Crc.sum (l.take 124) = S at *
    have HSM := Lib.hid hsm
    clear hsm hS
    obtain ⟨b, off, rfl, hb, _⟩ := hcell 0 (by omega)
    have hcell2 : ∀ j, j < 128 → w.cell? ⟨b, off + j, none⟩ = some (.int .u8 ((l.getD j 0).toNat : Int)) := by
      intro j hj
      obtain ⟨b', off', e, _, hx⟩ := hcell j hj
      injection e with e
      injection e with e1 e2
      subst e1 e2
      exact hx
    clear hcell
    go_wp2
    have hbel : Below w.heap.size w (w.alloc (.cells #[.slice (some ⟨b, off, none⟩) 124 c] 26)) := (Below.refl _ _).alloc (Nat.le_refl _) _
    have hcW : ∀ j, j < 128 → (w.alloc (.cells #[.slice (some ⟨b, off, none⟩) 124 c] 26)).cell? ⟨b, off + j, none⟩ = some (.int .u8 ((l.getD j 0).toNat : Int)) :=
      fun j hj => (World.cell?_alloc_lt _ _ _ (by show b < _; omega)).trans (hcell2 j hj)
    generalize w.alloc (.cells #[.slice (some ⟨b, off, none⟩) 124 c] 26) = W1 at *
    clear hcell2
    go_loopw [12] (fun i wr => ∃ k n : Nat, k ≤ 4 ∧ i = .int .i64 k ∧ wr = W1.drewN n ∧ Crc.HTo l S k) (fun i _ => 4 - (intOf i).toNat)
    case atStart => exact ⟨0, 0, by omega, rfl, rfl, fun j hj => absurd hj (by omega)⟩
    case round =>
      obtain ⟨k, n, hk, rfl, rfl, hto⟩ := hrel
      by_cases hlt : k < 4
      · have hx := hcW (124 + k) (by omega)
        have hno : ∀ e, (l.getD (124 + k) 0).toNat ≠ S / 256 ^ k % 256 → Crc.held l = e → e = false := fun e h1 h2 => by
          rw [← h2, Bool.eq_false_iff, ne_eq, Crc.held_iff l HL.out, HSM.out]; exact Crc.HTo.no hlt h1
        have HNO := Lib.hid hno
        have HSU := Lib.hid (fun e => Crc.HTo.succ (l := l) (S := S) (k := k) hto e)
        clear hno hcW
        obtain rfl | rfl | rfl | rfl : k = 0 ∨ k = 1 ∨ k = 2 ∨ k = 3 := by omega
        all_goals
          generalize hch : l.getD _ 0 = ch at hx HNO HSU
          clear hch
          go_wp2
          go_quiet (fail)
          go_wp2
          · go_ret
            rename_i hne
            refine ⟨?_, below_drewN (below_drewN hbel _) _⟩
            have h2 := HNO.out _ (by simp at hne; simp; omega) rfl
            rw [h2]
            rfl
          · rename_i hne
            have hto' := HSU.out (by simp at hne; simp; omega)
            refine ⟨⟨_, n + nq, ?_, ?_, rfl, hto'⟩, ?_⟩
            · omega
            · rfl
            · simp [intOf]
      · obtain rfl : k = 4 := by omega
        have H := Lib.hid ((Crc.held_iff l HL.out).2 (by rw [HSM.out]; exact hto))
        clear hto hcW
        go_wp2
        go_ret
        exact ⟨by rw [H.out]; rfl, below_drewN hbel _⟩
  · have hne : ((l.length : Int) != 128) = true := by rw [bne_iff_ne]; omega
    have H := Lib.hid (show Crc.held l = false by unfold Crc.held; simp [hl])
    clear hl h hcell hG
    go_enter Tryd.func26, Tryd.ntmps26
    go_wp2
    go_ret
    exact ⟨by rw [H.out]; rfl, Below.refl _ _⟩
def Z128 : Array Value := madeCells #[.int .u8 0] 128
theorem Z128_list : Z128.toList = (Crc.pad 128 []).map fun c => Value.int .u8 (c.toNat : Int) := by
  unfold Z128 Crc.pad
  rw [toList_madeCells_one, List.nil_append, List.map_replicate]
  rfl
theorem mk128 (W : World) : (Instr.makeSlice 26 (.int .i64 128) (.int .i64 128)).run Tryd.prog W = .ok (.slice (some ⟨W.heap.size, 0, none⟩) 128 128) (W.alloc (.cells Z128 5)) := by kernel_rfl
theorem bs_oneCell (l : List UInt8) : ∀ u ∈ l.map (fun c => Value.int .u8 (c.toNat : Int)), u.oneCell' = true := by
  intro u hu
  obtain ⟨c, _, rfl⟩ := List.mem_map.1 hu
  rfl

theorem blk_arr {w : World} {g : Nat} {t : TypeId} {l : List UInt8} {S k i : Nat} (h : Blk w g t ((Crc.arr l S k).map fun c => .int .u8 (c.toNat : Int))) (hl : l.length ≤ 124) (hk : k < 4) (hi : i = 124 + k) {z : Int} (hz : z = ((S / 256 ^ k % 256 : Nat) : Int)) :
    Blk (w.setCell ⟨g, i, none⟩ (.int .u8 z)) g t ((Crc.arr l S (k + 1)).map fun c => .int .u8 (c.toNat : Int)) := by
  subst hi
  have hx : (UInt8.ofNat (S / 256 ^ k % 256)).toNat = S / 256 ^ k % 256 := by rw [UInt8.toNat_ofNat']; omega
  have e := h.set_ (124 + k) (.int .u8 z)
  rw [← Crc.arr_succ l S k hl hk _ hx, List.map_set, hx, ← hz]
  exact e

set_option maxHeartbeats 400000 in
theorem seal_blk (w : World) (v : Value) (B : Nat) (l : List UInt8) (hG : Halves w) (h : Bs w B v l) (hB : B ≤ w.heap.size) (hl : l.length ≤ 124) :
    Calls Tryd.prog 25 #[v] w fun e w' => e = .returned (.tuple #[.slice (some ⟨w.heap.size, 0, none⟩) 128 128, .int .i64 0]) ∧ Blk w' w.heap.size 5 ((Crc.sealed l).map fun c => .int .u8 (c.toNat : Int)) ∧ Below w.heap.size w w' := by
  obtain ⟨A, c, rfl, hc, hm, hcell⟩ := h.openD
  clear hcell
  have hgt : ¬ (124 : Int) < (l.length : Int) := by omega
  have hmk := mk128
  go_enter Tryd.func25, Tryd.ntmps25
  go_wp2
  clear hmk
  have hb1 : Below w.heap.size w (w.alloc (.cells Z128 5)) := (Below.refl _ _).alloc (Nat.le_refl _) _
  have hk1 := Blk.new w 5 Z128
  have hs1 : Bs (w.alloc (.cells Z128 5)) B (.slice A l.length c) l := h.ext hB hb1
  generalize w.alloc (.cells Z128 5) = W1 at *
  obtain ⟨W2, hcp, hk2, hbel⟩ := run_copy_rds (P := Tryd.prog) hk1 (c' := 128) (n := 128) 26 3 5 Tryd.underlying26 (by kernel_rfl) hs1 (bs_oneCell l) (by omega) (by rw [Z128_list]; rfl)
  rw [hcp]
  clear hcp
  go_wp2_with fail
  have hb2 := hbel _ _ (Nat.le_refl _) hb1
  have hk2' : Blk W2 w.heap.size 5 ((Crc.pad 128 l).map fun c => .int .u8 (c.toNat : Int)) := by
    have e : (l.map fun c => Value.int .u8 (c.toNat : Int)) ++ Z128.toList.drop l.length = (Crc.pad 128 l).map fun c => .int .u8 (c.toNat : Int) := by
      rw [Z128_list, ← List.map_drop, ← List.map_append]
      unfold Crc.pad
      rw [List.nil_append, List.drop_replicate]
      rfl
    rw [← e]; exact hk2
  clear hk2 hbel hk1 hs1 hb1
  have hs2 : Bs W2 W2.heap.size (.slice (some ⟨w.heap.size, 0, none⟩) 124 128) (Crc.pad 124 l) := by
    have := (hk2'.rds 0 124 128 1 (by simp [Crc.length_pad 128 l (by omega)]) (by omega) (by simp [maxLen])).more (Nat.succ_le_of_lt hk2'.lt)
    unfold Bs
    rw [Crc.length_pad 124 l hl, ← Crc.pad_take l hl]
    simpa [List.map_take] using this
  refine (sum_any _ _ _ [Crc.pad 124 l] ((hG.ext hb2).alloc _) (Bss.lit1 _ hs2)).mono ?_
  rintro e w' ⟨rfl, rfl⟩
  simp only [List.flatten_cons, List.flatten_nil, List.append_nil]
  have hk3 := hk2'.alloc (.cells #[.slice (some ⟨w.heap.size, 0, none⟩) 124 128] 26)
  have hb3 := hb2.alloc hb2.size (.cells #[.slice (some ⟨w.heap.size, 0, none⟩) 124 128] 26)
  generalize W2.alloc (.cells #[.slice (some ⟨w.heap.size, 0, none⟩) 124 128] 26) = W3 at *
  clear hk2' hs2 hG h hb2
  have hS := Crc.sum_lt (Crc.pad 124 l)
  have HF := Lib.hid (Crc.arr_four l)
  rw [← Crc.arr_zero l (Crc.sum (Crc.pad 124 l)) hl] at hk3
  generalize Crc.sum (Crc.pad 124 l) = S at *
  go_wp2
  go_loopw [18] (fun i wr => ∃ k : Nat, k ≤ 4 ∧ i = .int .i64 k ∧ Below w.heap.size w wr ∧ Blk wr w.heap.size 5 ((Crc.arr l S k).map fun c => .int .u8 (c.toNat : Int))) (fun i _ => 4 - (intOf i).toNat)
  case atStart => exact ⟨0, by omega, rfl, hb3, hk3⟩
  case round =>
    obtain ⟨k, hk, rfl, hbw, hkw⟩ := hrel
    clear hb3 hk3
    by_cases hlt : k < 4
    · have hfr := hkw.frozen (124 + k)
      have hce : wr.cell? ⟨w.heap.size, 124 + k, none⟩ = some (.int .u8 (((Crc.arr l S k).getD (124 + k) 0).toNat : Int)) := by
        rw [hkw.cell, List.getElem?_map, List.getD_eq_getElem?_getD, List.getElem?_eq_getElem (by rw [Crc.length_arr l S k hl hk]; omega)]
        rfl
      obtain rfl | rfl | rfl | rfl : k = 0 ∨ k = 1 ∨ k = 2 ∨ k = 3 := by omega
      all_goals
        generalize List.getD _ _ 0 = ch at hce
        go_wp2
        exact ⟨⟨_, by omega, by rfl, hbw.setCell (Nat.le_refl _) _, blk_arr hkw hl hlt rfl (by simp; try omega)⟩, by simp [intOf]⟩
    · obtain rfl : k = 4 := by omega
      rw [HF.out] at hkw
      go_wp2
      go_ret2
      exact ⟨rfl, hkw, hbw⟩
theorem seal_any (w : World) (v : Value) (B : Nat) (l : List UInt8) (hG : Halves w) (h : Bs w B v l) (hB : B ≤ w.heap.size) (hl : l.length ≤ 124) :
    Calls Tryd.prog 25 #[v] w fun e w' => ∃ u, e = .returned (.tuple #[u, .int .i64 0]) ∧ w'.ownsRow w.heap.size 5 1 u 128 ((Crc.sealed l).map fun c => .int .u8 (c.toNat : Int)) ∧ Below w.heap.size w w' := by
  refine (seal_blk w v B l hG h hB hl).mono ?_
  rintro e w' ⟨rfl, hk, hb⟩
  refine ⟨_, rfl, ?_, hb⟩
  have := hk.own (Nat.le_refl _) 128 128 1 (by simp [Crc.length_sealed l hl]) (Nat.le_refl _) (by simp [maxLen])
  rw [List.take_of_length_le (by simp [Crc.length_sealed l hl])] at this
  exact this
set_option maxHeartbeats 400000 in
theorem seal_full (w : World) (v : Value) (B : Nat) (l : List UInt8) (h : Bs w B v l) (hl : 124 < l.length) :
    Calls Tryd.prog 25 #[v] w fun e w' => e = .returned (.tuple #[.slice none 0 0, .int .i64 8]) ∧ w = w' := by
  obtain ⟨A, c, rfl, hc, hm, hcell⟩ := h.openD
  clear hcell
  go_enter Tryd.func25, Tryd.ntmps25
  go_wp2
  go_ret2
  exact ⟨rfl, rfl⟩
end Go.Proofs.YtieajlpkiheebaaDoor
