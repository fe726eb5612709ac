/-
  CrcFinds: a sealed block with one up to 32 bits beside one another turned over is none. For every input; the table of halves holds what its initialiser lays (the card ties it).
-/
import Derived.Test.YtfedklediafnpaaDoorCrcL
import Derived.Test.YtfedklediafnpaaDoorDoor
import Derived.Test.YtfedklediafnpaaDoorRegion
namespace Go.Proofs.YtfedklediafnpaaDoor
open Go.ChangeShapes Go.WideShapes Go.ChangeAt Go.RowKit

theorem blk_dl {w : World} {g : Nat} {t : TypeId} {s : List UInt8} {wide q j : Nat} (h : Blk w g t ((Crc.xor2 s (Crc.dl wide q j)).map fun c => .int .u8 (c.toNat : Int))) (hs : s.length = 128) (hq : q + j < 128) {ch : UInt8} (hc : (Crc.xor2 s (Crc.dl wide q j)).getD (q + j) 0 = ch) :
    Blk (w.setCell ⟨g, q + j, none⟩ (.int .u8 (bits .xor .u8 (ch.toNat : Int) ((wide : Int) / 2 ^ (8 * j) % 256)))) g t ((Crc.xor2 s (Crc.dl wide q (j + 1))).map fun c => .int .u8 (c.toNat : Int)) := by
  have e1 : ((wide : Int) / 2 ^ (8 * j) % 256) = ((wide / 256 ^ j % 256 : Nat) : Int) := by
    have hp : (2 : Int) ^ (8 * j) = ((256 ^ j : Nat) : Int) := by
      rw [show (256 : Nat) = 2 ^ 8 from rfl, ← Nat.pow_mul]
      exact (Int.natCast_pow 2 (8 * j)).symm
    rw [hp]
    rfl
  have e2 : bits .xor .u8 (ch.toNat : Int) ((wide : Int) / 2 ^ (8 * j) % 256) = ((ch ^^^ UInt8.ofNat (wide / 256 ^ j)).toNat : Int) := by
    rw [e1, u8_xor_nat _ _ ch.toNat_lt (by omega), UInt8.toNat_xor, UInt8.toNat_ofNat']
  rw [e2, ← Crc.xor2_dl s wide q j hs hq (ch ^^^ UInt8.ofNat (wide / 256 ^ j)) (by rw [hc]), List.map_set]
  exact h.set_ (q + j) _

set_option maxRecDepth 100000 in
set_option maxHeartbeats 1000000 in
theorem crcFinds_walk (w : World) (v : Value) (l : List UInt8) (z1 z2 : Int) (hH : Halves w) (h : Bs w w.heap.size v l) (wf1 : (Lit.int .u64 z1).wf = true) (wf2 : (Lit.int .u32 z2).wf = true) :
    Calls Tryd.prog 7 #[v, .int .u64 z1, .int .u32 z2] w fun e w' => e = .returned (.bool true) ∧ Below w.heap.size w w' := by
  have hz1 := wf_u64 wf1
  have hz2 := wf_u32 wf2
  obtain ⟨at_, rfl⟩ := Int.eq_ofNat_of_zero_le hz1.1
  obtain ⟨turn, rfl⟩ := Int.eq_ofNat_of_zero_le hz2.1
  clear wf1 wf2
  go_enter Tryd.func7, Tryd.ntmps7
  go_wp2_with fail
  refine (few_any _ _ _ _ h).mono ?_
  rintro e w' ⟨u, rfl, h2, rfl⟩
  generalize l.take 300 = m at *
  obtain ⟨A, c, rfl, hc, hm, hcell⟩ := h2.open_
  clear hcell h
  have hst : Below w.heap.size w w := Below.refl _ _
  by_cases hl : 124 < m.length
  · have hl' : (124 : Int) < m.length := by omega
    have hl2 : (124 : Int) ≤ c := by omega
    have hl3 : (124 : Nat) ≤ c := by omega
    go_wp2_with fail
    have hp : (m.take 124).length ≤ 124 := by rw [List.length_take]; omega
    have hlen := Crc.length_sealed _ hp
    have hheld := Crc.held_sealed _ hp
    refine (seal_blk _ _ _ _ hH (h2.head (k := 124) (by omega)) (Nat.le_refl _) hp).mono ?_
    rintro e w1 ⟨rfl, hk1, hb1⟩
    generalize Crc.sealed (m.take 124) = s at *
    clear hp hl' hl2 hl3
    have HL := Lib.hid hlen
    have HE := Lib.hid hheld
    clear hlen hheld
    go_wp2_with fail
    refine (held_any _ _ (w.heap.size + 1) s (hH.ext hb1) (Bs.at_block hk1 s (by simp) (by rw [HL.out]) (Nat.le_refl _) (by simp [maxLen])) (Nat.succ_le_of_lt hk1.lt)).mono ?_
    rintro e w2 ⟨rfl, hb2⟩
    rw [HE.out]
    have hk2 := hk1.ext hb2
    have hbb := hb1.trans (hb2.mono hb1.size)
    clear hk1 hb1 hb2
    by_cases ht : turn = 0
    · subst ht
      go_wp2_with fail
      refine (awake_any _ (hH.ext hbb)).mono ?_
      rintro e w3 ⟨rfl, hb3⟩
      go_wp2
      go_ret
      exact ⟨rfl, hbb.trans (hb3.mono hbb.size)⟩
    · have ht' : ((turn : Int) == 0) = false := by rw [beq_eq_false_iff_ne]; omega
      have hmod : at_ % 993 < 993 := Nat.mod_lt _ (by omega)
      have hmi : ((at_ : Int) % 993) = ((at_ % 993 : Nat) : Int) := by omega
      generalize at_ % 993 = k at *
      have hpow : turn * 2 ^ (k % 8) < 1099511627776 := by
        have h1 : 2 ^ (k % 8) ≤ 2 ^ 7 := Nat.pow_le_pow_right (by omega) (by omega)
        have h2 : turn * 2 ^ (k % 8) ≤ turn * 2 ^ 7 := Nat.mul_le_mul_left _ h1
        omega
      have hwr : IntKind.u64.wrap ((turn : Int) * 2 ^ (k % 8)) = ((turn * 2 ^ (k % 8) : Nat) : Int) := by
        have e : ((turn * 2 ^ (k % 8) : Nat) : Int) = (turn : Int) * 2 ^ (k % 8) := by rw [Int.natCast_mul, Int.natCast_pow]; rfl
        rw [← e]
        exact IntWalk.u64_in _ ⟨by omega, by omega⟩
      go_wp2_with fail
      simp only [hmi, hwr]
      generalize hwd : turn * 2 ^ (k % 8) = wide at *
      have HWD := Lib.hid hwd
      clear hwd hwr hmi hz1
      go_loopw [11] (fun i wr => ∃ j : Nat, j ≤ 5 ∧ k / 8 + j ≤ 128 ∧ i = .int .u64 j ∧ Below w.heap.size w wr ∧ Blk wr w.heap.size 5 ((Crc.xor2 s (Crc.dl wide (k / 8) j)).map fun c => .int .u8 (c.toNat : Int))) (fun i _ => 5 - (intOf i).toNat)
      case atStart => exact ⟨0, by omega, by omega, rfl, hbb, by rw [Crc.dl_zero _ _ (by omega), Crc.xor2_zero s HL.out]; exact hk2⟩
      case round =>
        obtain ⟨j, hj, hq, rfl, hbw, hkw⟩ := hrel
        by_cases hlt : j < 5 ∧ k / 8 + j < 128
        · obtain ⟨h5, h128⟩ := hlt
          have hfr := hkw.frozen (k / 8 + j)
          have hce : wr.cell? ⟨w.heap.size, k / 8 + j, none⟩ = some (.int .u8 (((Crc.xor2 s (Crc.dl wide (k / 8) j)).getD (k / 8 + j) 0).toNat : Int)) := by
            rw [hkw.cell, List.getElem?_map, List.getD_eq_getElem?_getD, List.getElem?_eq_getElem (by rw [Crc.length_xor2 _ _ (by rw [HL.out, Crc.length_dl _ _ _ hq]), HL.out]; omega)]
            rfl
          generalize hch : (Crc.xor2 s (Crc.dl wide (k / 8) j)).getD (k / 8 + j) 0 = ch at hce
          have HC := Lib.hid hch
          clear hch
          go_wp2
          exact ⟨⟨j + 1, by omega, by omega, by simp, hbw.setCell (Nat.le_refl _) _, blk_dl hkw HL.out h128 HC.out⟩, by simp [intOf]; omega⟩
        · have HF := Lib.hid (Crc.held_burst s (Crc.dl wide (k / 8) j) turn k HL.out (Crc.length_dl _ _ _ hq) HE.out (by omega) ht (by omega) (Crc.le_turn turn k j wide (by omega) hmod hj HWD.out hlt hq))
          have hlen := Lib.hid (show (Crc.xor2 s (Crc.dl wide (k / 8) j)).length = 128 by rw [Crc.length_xor2 _ _ (by rw [HL.out, Crc.length_dl _ _ _ hq]), HL.out])
          generalize Crc.xor2 s (Crc.dl wide (k / 8) j) = y at *
          by_cases h5 : j < 5
          · have h128 : ¬ ((k : Int) / 8 + j < 128) := by omega
            clear hlt
            go_wp2_with fail
            refine (held_any _ _ (w.heap.size + 1) y (hH.ext hbw) (Bs.at_block hkw y (by simp) (by rw [hlen.out]) (Nat.le_refl _) (by simp [maxLen])) (Nat.succ_le_of_lt hkw.lt)).mono ?_
            rintro e w3 ⟨rfl, hb3⟩
            rw [HF.out]
            have hbc := hbw.trans (hb3.mono hbw.size)
            go_wp2_with fail
            refine (awake_any _ (hH.ext hbc)).mono ?_
            rintro e w4 ⟨rfl, hb4⟩
            go_wp2
            go_ret
            exact ⟨rfl, hbc.trans (hb4.mono hbc.size)⟩
          · have h5' : ¬ ((j : Int) < 5) := by omega
            clear hlt
            go_wp2_with fail
            refine (held_any _ _ (w.heap.size + 1) y (hH.ext hbw) (Bs.at_block hkw y (by simp) (by rw [hlen.out]) (Nat.le_refl _) (by simp [maxLen])) (Nat.succ_le_of_lt hkw.lt)).mono ?_
            rintro e w3 ⟨rfl, hb3⟩
            rw [HF.out]
            have hbc := hbw.trans (hb3.mono hbw.size)
            go_wp2_with fail
            refine (awake_any _ (hH.ext hbc)).mono ?_
            rintro e w4 ⟨rfl, hb4⟩
            go_wp2
            go_ret
            exact ⟨rfl, hbc.trans (hb4.mono hbc.size)⟩
  · have hl' : ¬ (124 : Int) < m.length := by omega
    go_wp2_with fail
    have hp : m.length ≤ 124 := by omega
    have hlen := Crc.length_sealed _ hp
    have hheld := Crc.held_sealed _ hp
    refine (seal_blk _ _ _ _ hH h2 (Nat.le_refl _) hp).mono ?_
    rintro e w1 ⟨rfl, hk1, hb1⟩
    generalize Crc.sealed m = s at *
    clear hp hl'
    have HL := Lib.hid hlen
    have HE := Lib.hid hheld
    clear hlen hheld
    go_wp2_with fail
    refine (held_any _ _ (w.heap.size + 1) s (hH.ext hb1) (Bs.at_block hk1 s (by simp) (by rw [HL.out]) (Nat.le_refl _) (by simp [maxLen])) (Nat.succ_le_of_lt hk1.lt)).mono ?_
    rintro e w2 ⟨rfl, hb2⟩
    rw [HE.out]
    have hk2 := hk1.ext hb2
    have hbb := hb1.trans (hb2.mono hb1.size)
    clear hk1 hb1 hb2
    by_cases ht : turn = 0
    · subst ht
      go_wp2_with fail
      refine (awake_any _ (hH.ext hbb)).mono ?_
      rintro e w3 ⟨rfl, hb3⟩
      go_wp2
      go_ret
      exact ⟨rfl, hbb.trans (hb3.mono hbb.size)⟩
    · have ht' : ((turn : Int) == 0) = false := by rw [beq_eq_false_iff_ne]; omega
      have hmod : at_ % 993 < 993 := Nat.mod_lt _ (by omega)
      have hmi : ((at_ : Int) % 993) = ((at_ % 993 : Nat) : Int) := by omega
      generalize at_ % 993 = k at *
      have hpow : turn * 2 ^ (k % 8) < 1099511627776 := by
        have h1 : 2 ^ (k % 8) ≤ 2 ^ 7 := Nat.pow_le_pow_right (by omega) (by omega)
        have h2 : turn * 2 ^ (k % 8) ≤ turn * 2 ^ 7 := Nat.mul_le_mul_left _ h1
        omega
      have hwr : IntKind.u64.wrap ((turn : Int) * 2 ^ (k % 8)) = ((turn * 2 ^ (k % 8) : Nat) : Int) := by
        have e : ((turn * 2 ^ (k % 8) : Nat) : Int) = (turn : Int) * 2 ^ (k % 8) := by rw [Int.natCast_mul, Int.natCast_pow]; rfl
        rw [← e]
        exact IntWalk.u64_in _ ⟨by omega, by omega⟩
      go_wp2_with fail
      simp only [hmi, hwr]
      generalize hwd : turn * 2 ^ (k % 8) = wide at *
      have HWD := Lib.hid hwd
      clear hwd hwr hmi hz1
      go_loopw [11] (fun i wr => ∃ j : Nat, j ≤ 5 ∧ k / 8 + j ≤ 128 ∧ i = .int .u64 j ∧ Below w.heap.size w wr ∧ Blk wr w.heap.size 5 ((Crc.xor2 s (Crc.dl wide (k / 8) j)).map fun c => .int .u8 (c.toNat : Int))) (fun i _ => 5 - (intOf i).toNat)
      case atStart => exact ⟨0, by omega, by omega, rfl, hbb, by rw [Crc.dl_zero _ _ (by omega), Crc.xor2_zero s HL.out]; exact hk2⟩
      case round =>
        obtain ⟨j, hj, hq, rfl, hbw, hkw⟩ := hrel
        by_cases hlt : j < 5 ∧ k / 8 + j < 128
        · obtain ⟨h5, h128⟩ := hlt
          have hfr := hkw.frozen (k / 8 + j)
          have hce : wr.cell? ⟨w.heap.size, k / 8 + j, none⟩ = some (.int .u8 (((Crc.xor2 s (Crc.dl wide (k / 8) j)).getD (k / 8 + j) 0).toNat : Int)) := by
            rw [hkw.cell, List.getElem?_map, List.getD_eq_getElem?_getD, List.getElem?_eq_getElem (by rw [Crc.length_xor2 _ _ (by rw [HL.out, Crc.length_dl _ _ _ hq]), HL.out]; omega)]
            rfl
          generalize hch : (Crc.xor2 s (Crc.dl wide (k / 8) j)).getD (k / 8 + j) 0 = ch at hce
          have HC := Lib.hid hch
          clear hch
          go_wp2
          exact ⟨⟨j + 1, by omega, by omega, by simp, hbw.setCell (Nat.le_refl _) _, blk_dl hkw HL.out h128 HC.out⟩, by simp [intOf]; omega⟩
        · have HF := Lib.hid (Crc.held_burst s (Crc.dl wide (k / 8) j) turn k HL.out (Crc.length_dl _ _ _ hq) HE.out (by omega) ht (by omega) (Crc.le_turn turn k j wide (by omega) hmod hj HWD.out hlt hq))
          have hlen := Lib.hid (show (Crc.xor2 s (Crc.dl wide (k / 8) j)).length = 128 by rw [Crc.length_xor2 _ _ (by rw [HL.out, Crc.length_dl _ _ _ hq]), HL.out])
          generalize Crc.xor2 s (Crc.dl wide (k / 8) j) = y at *
          by_cases h5 : j < 5
          · have h128 : ¬ ((k : Int) / 8 + j < 128) := by omega
            clear hlt
            go_wp2_with fail
            refine (held_any _ _ (w.heap.size + 1) y (hH.ext hbw) (Bs.at_block hkw y (by simp) (by rw [hlen.out]) (Nat.le_refl _) (by simp [maxLen])) (Nat.succ_le_of_lt hkw.lt)).mono ?_
            rintro e w3 ⟨rfl, hb3⟩
            rw [HF.out]
            have hbc := hbw.trans (hb3.mono hbw.size)
            go_wp2_with fail
            refine (awake_any _ (hH.ext hbc)).mono ?_
            rintro e w4 ⟨rfl, hb4⟩
            go_wp2
            go_ret
            exact ⟨rfl, hbc.trans (hb4.mono hbc.size)⟩
          · have h5' : ¬ ((j : Int) < 5) := by omega
            clear hlt
            go_wp2_with fail
            refine (held_any _ _ (w.heap.size + 1) y (hH.ext hbw) (Bs.at_block hkw y (by simp) (by rw [hlen.out]) (Nat.le_refl _) (by simp [maxLen])) (Nat.succ_le_of_lt hkw.lt)).mono ?_
            rintro e w3 ⟨rfl, hb3⟩
            rw [HF.out]
            have hbc := hbw.trans (hb3.mono hbw.size)
            go_wp2_with fail
            refine (awake_any _ (hH.ext hbc)).mono ?_
            rintro e w4 ⟨rfl, hb4⟩
            go_wp2
            go_ret
            exact ⟨rfl, hbc.trans (hb4.mono hbc.size)⟩

/-- What the walk gives, for every argument and every world that holds the table. -/
theorem crcFinds_contract (H : Type) (enc : TypeId × Value → H) (W : World) (base : Nat) (args : Array Value) (ds gs : List (DataW H)) (before : List MemPlace)
    (hval : ∀ (j : Nat) t v, Tryd.f7.params[j]? = some t → args[j]? = some v → Value.okWide Tryd.prog W .any base t v)
    (hW : DataW.Whole enc Tryd.prog Tryd.f7.params.toList Rows.crcFindsSpec.vars false W args.toList ds gs before) (hL : laidMetH Tryd.prog Rows.crcFindsRow.laid W) :
    Calls Tryd.prog 7 args W fun e W' => ∃ v, e = .returned v ∧ Rows.crcFindsSpec.post enc Tryd.prog Tryd.f7 false true false false W args v W' := by
  have hW' := hW
  obtain ⟨p, q, hA0, hV, hps, hfz, hnd⟩ := hW
  have hA : DataW.TrodAll enc Tryd.prog W 0 (fun _ => true) true Tryd.f7.params.toList args.toList ds p := hA0
  rw [Tryd.params7] at hA hval
  obtain ⟨v0, vs0, d0, ds0, p0, q0, hargs, rfl, rfl, h0, r0⟩ := trodAll_cons hA
  obtain ⟨v1, vs1, d1, ds1, p1, q1, rfl, rfl, rfl, h1, r1⟩ := trodAll_cons r0
  obtain ⟨v2, vs2, d2, ds2, p2, q2, rfl, rfl, rfl, h2, r2⟩ := trodAll_cons r1
  obtain ⟨rfl, rfl, rfl⟩ := trodAll_nil r2
  obtain rfl : args = #[v0, v1, v2] := by cases args; simp_all
  obtain ⟨rfl, rfl⟩ := trodVars_none hV
  obtain ⟨l0, b0⟩ := bs_of_trod Tryd.underlying23 Tryd.underlying5 cellsU8 (hval 0 23 v0 rfl rfl) h0
  obtain ⟨z1, rfl, rfl, rfl, wf1⟩ := open_int Tryd.underlying39 (hval 1 39 v1 rfl rfl) h1
  obtain ⟨z2, rfl, rfl, rfl, wf2⟩ := open_int Tryd.underlying25 (hval 2 25 v2 rfl rfl) h2
  clear hA0
  refine (crcFinds_walk W v0 l0 z1 z2 (halves_of hL) b0 wf1 wf2).mono fun e W' ⟨he, hb⟩ => ?_
  subst he
  exact ⟨_, rfl, law_post laidOut (by rw [Tryd.params7]; decide +kernel) rfl Tryd.underlying4 rfl rfl hW' hb⟩

theorem crcFinds_met (os : Os) : laidMet Tryd.prog Rows.crcFindsRow.laid ((laidWorld os).forCall (fun _ _ => 0) ⟨#[], #[.slice none 0 0, .int .u64 0, .int .u32 0], []⟩).memory :=
  laidMet_of_run' 8 (by kernel_rfl) (by kernel_rfl)
theorem crcFinds_reads (os : Os) {H : Type} (enc : TypeId × Value → H) : ∃ places, DataW.whole enc Tryd.prog ((laidWorld os).forCall (fun _ _ => 0) ⟨#[], #[.slice none 0 0, .int .u64 0, .int .u32 0], []⟩).memory Tryd.f7.params.toList Rows.crcFindsSpec.vars false (#[.slice none 0 0, .int .u64 0, .int .u32 0] : Array Value).toList 8 = some ([.nil, .lit (.int .u64 0), .lit (.int .u32 0)], [], places) :=
  ⟨[], by kernel_rfl⟩

set_option maxRecDepth 100000 in
theorem crcFinds_lifted (os : Os) (started : os.Started) (H : Type) (enc : TypeId × Value → H) (F : Stop.Interp) :
    ReturnsInHanded {} Tryd.checked os 7 .any ((OpenSpec.ofChange Rows.crcFindsSpec).preRow enc Tryd.prog Tryd.f7 Rows.crcFindsRow.domain false Rows.crcFindsRow.laid) (((OpenSpec.ofChange Rows.crcFindsSpec).at F).post enc Tryd.prog Tryd.f7 false true false false) := by
  obtain ⟨places, hx⟩ := crcFinds_reads os enc
  refine returnsInHanded_of_row (C := Tryd.checked) (s := OpenSpec.ofChange Rows.crcFindsSpec) own started (by kernel_rfl) Tryd.func7
    (witness_row_at (enc := enc) (C := Tryd.checked) false (laidWorld os) #[.slice none 0 0, .int .u64 0, .int .u32 0] rfl (by kernel_rfl) (by kernel_rfl) (by kernel_rfl)
      (OpenSpec.preRow_of_cond 8 hx (by kernel_rfl) (fun k hk => by cases hk) (by kernel_rfl) (crcFinds_met os))) ?_
  intro W base args ds gs before hval hW _ _ _ hL _ _
  exact crcFinds_contract H enc W base args ds gs before hval hW hL

theorem crcFinds_said : Rows.CrcFindsSaid :=
  OpenClaim.holds_of_cond 7 Tryd.f7 rfl rfl rfl rfl rfl rfl rfl ⟨rfl, rfl, rfl, rfl, rfl⟩ rfl rfl rfl rfl rfl (by kernel_rfl) Tryd.func7 (by kernel_rfl)
    (of_decide_eq_true (by kernel_rfl)) (by unfold Func.isWrapper; first | (rw [if_pos (by decide +kernel)]; kernel_rfl) | (rw [if_neg (by decide +kernel)]; exact ⟨rfl, rfl⟩))
    (fun os started H enc _ F => by rw [OpenClaim.pre_eq_preRow]; exact crcFinds_lifted os started H enc F)

theorem crcFinds_plain (f : FuncId) (fn : Func) (hf : Tryd.pinned.checked.prog.funcNamed "haymow/haymowlaw02.CrcFinds" = some f) (hfn : Tryd.pinned.checked.prog.funcs[f]? = some fn) :
    false = Tryd.pinned.checked.prog.looks [] ∧ ∀ (j : Nat) t, fn.params[j]? = some t → Tryd.pinned.checked.prog.wantsStandIn t = false := by
  obtain rfl : f = 7 := Option.some.inj ((show Tryd.prog.funcNamed "haymow/haymowlaw02.CrcFinds" = some 7 by kernel_rfl).symm.trans hf) |>.symm
  obtain rfl : fn = Tryd.f7 := (Option.some.inj (Tryd.func7.symm.trans hfn)).symm
  refine ⟨by kernel_rfl, fun j t ht => ?_⟩
  rw [Tryd.params7] at ht
  have hall : ∀ t ∈ (Tryd.f7).params.toList, Tryd.prog.wantsStandIn t = false := by rw [Tryd.params7]; decide +kernel
  exact hall t (by rw [Tryd.params7]; exact Array.mem_toList_iff.2 (Array.mem_of_getElem? ht))

/-- THE CARD. -/
theorem crcFinds_holds : Rows.CrcFindsCardSaid :=
  Claim7.holds_tied_plain_at .later [] _ _ _ _ crcFinds_said (fun _ h => by cases h) (by kernel_rfl) (fun _ h => by cases h) crcFinds_row_tie rfl ⟨rfl, rfl⟩ (by kernel_rfl) rfl crcFinds_plain (by kernel_rfl)

end Go.Proofs.YtfedklediafnpaaDoor
