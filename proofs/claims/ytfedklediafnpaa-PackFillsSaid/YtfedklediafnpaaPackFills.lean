/-
  PackFills: whatever octets are filled are the document's block, or refused; and whether octets are clear from a place on is as it says. For every input.
-/
import Derived.Test.YtfedklediafnpaaPackL
import Derived.Test.YtfedklediafnpaaPlain
import Derived.Deep.DeepCutAuto
namespace Go.Proofs.Ytfedklediafnpaa
open Go.ChangeShapes Go.WideShapes Go.ChangeAt Go.RowKit

/-- What the loop has found after k octets. -/
def clrUp (l : List UInt8) (f : Int) (k : Nat) : Bool := decide (0 ≤ f ∧ f ≤ l.length) && (List.range k).all fun i => decide ((i : Int) < f) || l.getD i 0 == 0
theorem clrUp_succ (l : List UInt8) (f : Int) (k : Nat) : clrUp l f (k + 1) = (clrUp l f k && (decide ((k : Int) < f) || l.getD k 0 == 0)) := by
  unfold clrUp
  rw [List.range_succ, List.all_append, Bool.and_assoc]
  simp
theorem clrUp_all (l : List UInt8) (f : Int) : clrUp l f l.length = Pk.clr l f := by
  by_cases h : 0 ≤ f ∧ f ≤ l.length
  · obtain ⟨fn, rfl⟩ := Int.eq_ofNat_of_zero_le h.1
    by_cases hz : ∀ j, fn + j < l.length → l.getD (fn + j) 0 = 0
    · rw [Pk.clr_yes (by omega) hz]
      unfold clrUp
      rw [decide_eq_true h, Bool.true_and, List.all_eq_true]
      intro i hi
      have hi' := List.mem_range.1 hi
      by_cases hif : (i : Int) < fn
      · rw [decide_eq_true hif, Bool.true_or]
      · have := hz (i - fn) (by omega)
        rw [show fn + (i - fn) = i by omega] at this
        rw [this]; simp
    · obtain ⟨j, hj⟩ := Classical.not_forall.1 hz
      obtain ⟨h1, h2⟩ := Classical.not_imp.1 hj
      rw [Pk.clr_no h1 h2]
      unfold clrUp
      rw [Bool.and_eq_false_iff]
      right
      rw [List.all_eq_false]
      refine ⟨fn + j, List.mem_range.2 h1, ?_⟩
      have : ¬ (((fn + j : Nat) : Int) < fn) := by omega
      rw [decide_eq_false this, Bool.false_or, beq_iff_eq]
      exact h2
  · unfold clrUp Pk.clr
    rw [decide_eq_false h, Bool.false_and, Bool.false_and]

set_option maxRecDepth 100000 in
set_option maxHeartbeats 1000000 in
theorem packFills_walk (w : World) (v0 : Value) (l : List UInt8) (z : Int) (h0 : Bs w w.heap.size v0 l) (wf : (Lit.int .i64 z).wf = true) :
    Calls Try.prog 7 #[v0, .int .i64 z] w fun e w' => e = .returned (.bool true) ∧ Below w.heap.size w w' := by
  have hz := wf_i64 wf
  clear wf
  obtain ⟨A0, c0, rfl, hc0, hx0, _⟩ := h0.openD
  go_enter Try.func7, Try.ntmps7
  go_upto_if 11 with fail
  go_cut [0] (fun s wx => w = wx ∧ Bs w w.heap.size s (l.take 200))
  case first =>
    by_cases h : 200 < l.length
    · have h' : (200 : Int) < l.length := by omega
      have hl2 : (200 : Int) ≤ c0 := by omega
      have hl3 : (200 : Nat) ≤ c0 := by omega
      have hh := Lib.hid (h0.head (k := 200) (by omega))
      clear h0
      go_wp2
      go_meet
      exact ⟨rfl, hh.out⟩
    · have h' : ¬ (200 : Int) < l.length := by omega
      go_wp2
      go_meet
      exact ⟨rfl, by rw [List.take_of_length_le (by omega)]; exact h0⟩
  case rest =>
    obtain ⟨rfl, b0⟩ := hcut
    clear h0
    have hm0 : (l.take 200).length ≤ 200 := by rw [List.length_take]; omega
    generalize l.take 200 = m at *
    obtain ⟨A2, c2, rfl, hc2, hx2, hcell⟩ := b0.openD
    go_wp2_with fail
    by_cases hl : 128 < m.length
    · refine (fill_full _ _ _ m b0 hl).mono ?_
      rintro e w1 ⟨rfl, rfl⟩
      go_upto_region 4 with fail
      go_cut [7] (fun s wx => w = wx ∧ s = .bool (clrUp m z 0))
      case first =>
        have HC := Lib.hid (show clrUp m z 0 = decide (0 ≤ z ∧ z ≤ m.length) by unfold clrUp; simp)
        by_cases hz1 : 0 ≤ z
        · by_cases hz2 : z ≤ m.length
          · go_wp2
            go_meet
            exact ⟨rfl, congrArg Value.bool (HC.out.trans (decide_eq_true ⟨hz1, hz2⟩)).symm⟩
          · go_wp2
            go_meet
            exact ⟨rfl, congrArg Value.bool (HC.out.trans (decide_eq_false (fun h => absurd h.2 (by omega)))).symm⟩
        · go_wp2
          go_meet
          exact ⟨rfl, congrArg Value.bool (HC.out.trans (decide_eq_false (fun h => absurd h.1 (by omega)))).symm⟩
      obtain ⟨rfl, rfl⟩ := hcut
      go_wp2
      go_loop [7, 8] (fun x i => ∃ k : Nat, k ≤ m.length ∧ i = .int .i64 k ∧ x = .bool (clrUp m z k)) (fun _ i => m.length - (intOf i).toNat)
      case atStart => exact ⟨0, Nat.zero_le _, rfl, rfl⟩
      case round =>
        obtain ⟨k, hk, rfl, rfl⟩ := hrel
        by_cases hlt : k < m.length
        · obtain ⟨b, off, rfl, hb, hx'⟩ := hcell k hlt
          have hx := hx'
          have HS := Lib.hid (clrUp_succ m z k)
          generalize m.getD k 0 = ch at *
          generalize clrUp m z k = cu at *
          clear hcell hx'
          cases cu
          · go_wp2
            go_round
            case rel => exact ⟨k + 1, by omega, by go_num, by rw [HS.out]; rfl⟩
            case measure => simp [intOf]; omega
          · by_cases hkz : (k : Int) < z
            · go_wp2
              go_round
              case rel => exact ⟨k + 1, by omega, by go_num, by rw [HS.out, decide_eq_true hkz]; rfl⟩
              case measure => simp [intOf]; omega
            · have HK := Lib.hid (show (ch == 0) = ((ch.toNat : Int) == 0) by
                rw [Bool.eq_iff_iff, beq_iff_eq, beq_iff_eq]
                constructor
                · rintro rfl; rfl
                · intro h; exact UInt8.toNat_inj.1 (by simpa using h))
              have HD := Lib.hid (decide_eq_false hkz)
              clear hkz
              have hkz : z ≤ k := by have := of_decide_eq_false HD.out; omega
              go_wp2
              all_goals
                go_round
                case rel => exact ⟨k + 1, by omega, by go_num, by rw [HS.out, HD.out, HK.out]; simp [*]⟩
                case measure => simp [intOf]; omega
        · obtain rfl : k = m.length := by omega
          rw [clrUp_all]
          go_wp2_with fail
          refine (clear_any _ _ _ m z b0 hz).mono ?_
          rintro e w' ⟨rfl, rfl⟩
          have hne : (Pk.clr m z != Pk.clr m z) = false := by simp
          generalize Pk.clr m z = cc at *
          have hl' : (128 : Int) < m.length := by omega
          go_wp2_with fail
          refine (awakeP_any _).mono ?_
          rintro e w4 ⟨rfl, hb4⟩
          go_wp2
          go_ret
          exact ⟨rfl, hb4⟩
    · refine (fill_any _ _ _ m b0 (Nat.le_refl _) (by omega)).mono ?_
      rintro e w1 ⟨rfl, hk1, hbw⟩
      go_upto_region 4 with fail
      go_cut [7] (fun s wx => w1 = wx ∧ s = .bool (clrUp m z 0))
      case first =>
        have HC := Lib.hid (show clrUp m z 0 = decide (0 ≤ z ∧ z ≤ m.length) by unfold clrUp; simp)
        by_cases hz1 : 0 ≤ z
        · by_cases hz2 : z ≤ m.length
          · go_wp2
            go_meet
            exact ⟨rfl, congrArg Value.bool (HC.out.trans (decide_eq_true ⟨hz1, hz2⟩)).symm⟩
          · go_wp2
            go_meet
            exact ⟨rfl, congrArg Value.bool (HC.out.trans (decide_eq_false (fun h => absurd h.2 (by omega)))).symm⟩
        · go_wp2
          go_meet
          exact ⟨rfl, congrArg Value.bool (HC.out.trans (decide_eq_false (fun h => absurd h.1 (by omega)))).symm⟩
      obtain ⟨rfl, rfl⟩ := hcut
      go_wp2
      go_loop [7, 8] (fun x i => ∃ k : Nat, k ≤ m.length ∧ i = .int .i64 k ∧ x = .bool (clrUp m z k)) (fun _ i => m.length - (intOf i).toNat)
      case atStart => exact ⟨0, Nat.zero_le _, rfl, rfl⟩
      case round =>
        obtain ⟨k, hk, rfl, rfl⟩ := hrel
        by_cases hlt : k < m.length
        · obtain ⟨b, off, rfl, hb, hx'⟩ := hcell k hlt
          have hx := (hbw.cell (p := ⟨b, off + k, none⟩) hb).trans hx'
          have HS := Lib.hid (clrUp_succ m z k)
          generalize m.getD k 0 = ch at *
          generalize clrUp m z k = cu at *
          clear hcell hx'
          cases cu
          · go_wp2
            go_round
            case rel => exact ⟨k + 1, by omega, by go_num, by rw [HS.out]; rfl⟩
            case measure => simp [intOf]; omega
          · by_cases hkz : (k : Int) < z
            · go_wp2
              go_round
              case rel => exact ⟨k + 1, by omega, by go_num, by rw [HS.out, decide_eq_true hkz]; rfl⟩
              case measure => simp [intOf]; omega
            · have HK := Lib.hid (show (ch == 0) = ((ch.toNat : Int) == 0) by
                rw [Bool.eq_iff_iff, beq_iff_eq, beq_iff_eq]
                constructor
                · rintro rfl; rfl
                · intro h; exact UInt8.toNat_inj.1 (by simpa using h))
              have HD := Lib.hid (decide_eq_false hkz)
              clear hkz
              have hkz : z ≤ k := by have := of_decide_eq_false HD.out; omega
              go_wp2
              all_goals
                go_round
                case rel => exact ⟨k + 1, by omega, by go_num, by rw [HS.out, HD.out, HK.out]; simp [*]⟩
                case measure => simp [intOf]; omega
        · obtain rfl : k = m.length := by omega
          rw [clrUp_all]
          go_wp2_with fail
          refine (clear_any _ _ _ m z (b0.ext (Nat.le_refl _) hbw) hz).mono ?_
          rintro e w' ⟨rfl, rfl⟩
          have hne : (Pk.clr m z != Pk.clr m z) = false := by simp
          generalize Pk.clr m z = cc at *
          have hl' : ¬ (128 : Int) < m.length := by omega
          go_wp2_with fail
          have hxs : Bs w1 (w.heap.size + 1) (.slice (some ⟨w.heap.size, 0, none⟩) 128 128) (Pk.pad 128 m) := Bs.at_block hk1 _ (by simp) (by rw [Pk.length_pad 128 m (by omega)]) (Nat.le_refl _) (by simp [maxLen])
          have hsz := Nat.succ_le_of_lt hk1.lt
          have b1 := b0.ext (Nat.le_refl _) hbw
          have hG0 : Below w1.heap.size w1 w1.drew := (Below.refl _ _).drew
          refine wp_region_list 20 [(fun v _ => v = .slice (some ⟨w.heap.size, 0, none⟩) 128 128),
            (fun v _ => v = .string ⟨(Pk.pad 128 m).toArray⟩),
            (fun v _ => v = .slice A2 m.length c2),
            (fun v _ => v = .string ⟨m.toArray⟩),
            (fun v _ => v = .string ⟨(Pk.pad 128 m).toArray⟩),
            (fun v _ => v = .bool true),
            (fun v _ => v = .bool true),
            (fun v _ => v = .int .i64 0),
            (fun v _ => v = .bool true),
            (fun v _ => v = .bool true),
            (fun v _ => v = .bool true),
            (fun v _ => v = .slice (some ⟨w.heap.size, 0, none⟩) 128 128),
            (fun v _ => v = .slice A2 m.length c2),
            (fun v _ => v = .int .i64 (m.length : Int)),
            (fun v _ => v = .bool true),
            (fun v _ => v = .bool true),
            (fun v _ => v = .bool true),
            (fun v _ => v = .bool true),
            (fun v _ => v = .bool true),
            (fun v _ => v = .bool true)]
            (fun x => Below w1.heap.size w1 x) (by kernel_rfl) rfl (by kernel_rfl) ?_ ?_ ?_ ?_
          · exact hG0
          · exact ⟨stab_eq _, stab_eq _, stab_eq _, stab_eq _, stab_eq _, stab_eq _, stab_eq _, stab_eq _, stab_eq _, stab_eq _, stab_eq _, stab_eq _, stab_eq _, stab_eq _, stab_eq _, stab_eq _, stab_eq _, stab_eq _, stab_eq _, stab_eq _, trivial⟩
          · refine ⟨?_, ?_, ?_, ?_, ?_, ?_, ?_, ?_, ?_, ?_, ?_, ?_, ?_, ?_, ?_, ?_, ?_, ?_, ?_, ?_, trivial⟩
            · intro a x hG hd hs K hK
              have h5 : a.tmps.getD 5 undef = .slice (some ⟨w.heap.size, 0, none⟩) 128 128 := hs 5 (by kernel_rfl)
              clear hd hs
              refine wpOp_plain rfl rfl ?_
              go_simp
              exact hK _ _ rfl hG (Below.refl _ _)
            · intro a x hG hd hs K hK
              have h64 : a.tmps.getD 64 undef = .slice (some ⟨w.heap.size, 0, none⟩) 128 128 := hd 0 64 (by kernel_rfl)
              clear hd hs
              refine wpOp_plain rfl rfl ?_
              have hcv := run_string_of (P := Try.prog) (hxs.ext hsz hG) 22 9 5 Try.underlying22 Try.underlying5 Try.underlying9
              go_simp
              exact hK _ _ rfl hG (Below.refl _ _)
            · intro a x hG hd hs K hK
              have h0 : a.tmps.getD 0 undef = .slice A2 m.length c2 := hs 0 (by kernel_rfl)
              clear hd hs
              refine wpOp_plain rfl rfl ?_
              go_simp
              exact hK _ _ rfl hG (Below.refl _ _)
            · intro a x hG hd hs K hK
              have h66 : a.tmps.getD 66 undef = .slice A2 m.length c2 := hd 2 66 (by kernel_rfl)
              clear hd hs
              refine wpOp_plain rfl rfl ?_
              have hcv := run_string_of (P := Try.prog) (b1.ext hbw.size hG) 22 9 5 Try.underlying22 Try.underlying5 Try.underlying9
              go_simp
              exact hK _ _ rfl hG (Below.refl _ _)
            · intro a x hG hd hs K hK
              have h67 : a.tmps.getD 67 undef = .string ⟨m.toArray⟩ := hd 3 67 (by kernel_rfl)
              clear hd hs
              refine wpOp_plain rfl rfl ?_
              go_simp
              refine (rfill_any _ m (by omega)).mono ?_
              rintro e w' ⟨rfl, rfl⟩
              exact hK _ _ rfl hG (Below.refl _ _)
            · intro a x hG hd hs K hK
              have h65 : a.tmps.getD 65 undef = .string ⟨(Pk.pad 128 m).toArray⟩ := hd 1 65 (by kernel_rfl)
              have h68 : a.tmps.getD 68 undef = .string ⟨(Pk.pad 128 m).toArray⟩ := hd 4 68 (by kernel_rfl)
              clear hd hs
              refine wpOp_plain rfl rfl ?_
              go_simp
              exact hK _ _ rfl hG (Below.refl _ _)
            · intro a x hG hd hs K hK
              have h69 : a.tmps.getD 69 undef = .bool true := hd 5 69 (by kernel_rfl)
              clear hd hs
              refine wpOp_plain rfl rfl ?_
              go_simp
              exact hK _ _ rfl hG (Below.refl _ _)
            · intro a x hG hd hs K hK
              have h6 : a.tmps.getD 6 undef = .int .i64 0 := hs 6 (by kernel_rfl)
              have h70 : a.tmps.getD 70 undef = .bool true := hd 6 70 (by kernel_rfl)
              clear hd hs
              refine wpOp_yes rfl rfl rfl h70 ?_
              go_simp
              exact hK _ _ rfl hG (Below.refl _ _)
            · intro a x hG hd hs K hK
              have h71 : a.tmps.getD 71 undef = .int .i64 0 := hd 7 71 (by kernel_rfl)
              have h70 : a.tmps.getD 70 undef = .bool true := hd 6 70 (by kernel_rfl)
              clear hd hs
              refine wpOp_yes rfl rfl rfl h70 ?_
              go_simp
              exact hK _ _ rfl hG (Below.refl _ _)
            · intro a x hG hd hs K hK
              have h70 : a.tmps.getD 70 undef = .bool true := hd 6 70 (by kernel_rfl)
              have h72 : a.tmps.getD 72 undef = .bool true := hd 8 72 (by kernel_rfl)
              clear hd hs
              refine wpOp_plain rfl rfl ?_
              go_simp
              exact hK _ _ rfl hG (Below.refl _ _)
            · intro a x hG hd hs K hK
              have h73 : a.tmps.getD 73 undef = .bool true := hd 9 73 (by kernel_rfl)
              clear hd hs
              refine wpOp_plain rfl rfl ?_
              go_simp
              exact hK _ _ rfl hG (Below.refl _ _)
            · intro a x hG hd hs K hK
              have h5 : a.tmps.getD 5 undef = .slice (some ⟨w.heap.size, 0, none⟩) 128 128 := hs 5 (by kernel_rfl)
              have h74 : a.tmps.getD 74 undef = .bool true := hd 10 74 (by kernel_rfl)
              clear hd hs
              refine wpOp_yes rfl rfl rfl h74 ?_
              go_simp
              exact hK _ _ rfl hG (Below.refl _ _)
            · intro a x hG hd hs K hK
              have h0 : a.tmps.getD 0 undef = .slice A2 m.length c2 := hs 0 (by kernel_rfl)
              have h74 : a.tmps.getD 74 undef = .bool true := hd 10 74 (by kernel_rfl)
              clear hd hs
              refine wpOp_yes rfl rfl rfl h74 ?_
              go_simp
              exact hK _ _ rfl hG (Below.refl _ _)
            · intro a x hG hd hs K hK
              have h76 : a.tmps.getD 76 undef = .slice A2 m.length c2 := hd 12 76 (by kernel_rfl)
              have h74 : a.tmps.getD 74 undef = .bool true := hd 10 74 (by kernel_rfl)
              clear hd hs
              refine wpOp_yes rfl rfl rfl h74 ?_
              go_simp
              exact hK _ _ rfl hG (Below.refl _ _)
            · intro a x hG hd hs K hK
              have h75 : a.tmps.getD 75 undef = .slice (some ⟨w.heap.size, 0, none⟩) 128 128 := hd 11 75 (by kernel_rfl)
              have h77 : a.tmps.getD 77 undef = .int .i64 (m.length : Int) := hd 13 77 (by kernel_rfl)
              have h74 : a.tmps.getD 74 undef = .bool true := hd 10 74 (by kernel_rfl)
              clear hd hs
              refine wpOp_yes rfl rfl rfl h74 ?_
              go_simp
              refine (clear_any _ _ _ (Pk.pad 128 m) (m.length : Int) (hxs.ext hsz hG) (by omega)).mono ?_
              rintro e w' ⟨rfl, rfl⟩
              rw [Pk.clr_pad 128 m (by omega)]
              exact hK _ _ rfl hG (Below.refl _ _)
            · intro a x hG hd hs K hK
              have h74 : a.tmps.getD 74 undef = .bool true := hd 10 74 (by kernel_rfl)
              have h78 : a.tmps.getD 78 undef = .bool true := hd 14 78 (by kernel_rfl)
              clear hd hs
              refine wpOp_plain rfl rfl ?_
              go_simp
              exact hK _ _ rfl hG (Below.refl _ _)
            · intro a x hG hd hs K hK
              have h79 : a.tmps.getD 79 undef = .bool true := hd 15 79 (by kernel_rfl)
              clear hd hs
              refine wpOp_plain rfl rfl ?_
              go_simp
              exact hK _ _ rfl hG (Below.refl _ _)
            · intro a x hG hd hs K hK
              have h80 : a.tmps.getD 80 undef = .bool true := hd 16 80 (by kernel_rfl)
              clear hd hs
              refine wpOp_yes rfl rfl rfl h80 ?_
              go_simp
              refine (awakeP_any _).mono ?_
              rintro e w' ⟨rfl, hb⟩
              exact hK _ _ rfl (hG.trans (hb.mono hG.size)) hb
            · intro a x hG hd hs K hK
              have h80 : a.tmps.getD 80 undef = .bool true := hd 16 80 (by kernel_rfl)
              have h81 : a.tmps.getD 81 undef = .bool true := hd 17 81 (by kernel_rfl)
              clear hd hs
              refine wpOp_plain rfl rfl ?_
              go_simp
              exact hK _ _ rfl hG (Below.refl _ _)
            · intro a x hG hd hs K hK
              have h82 : a.tmps.getD 82 undef = .bool true := hd 18 82 (by kernel_rfl)
              clear hd hs
              refine wpOp_plain rfl rfl ?_
              go_simp
              exact hK _ _ rfl hG (Below.refl _ _)
          · intro x hG
            rintro _ rfl _ rfl _ rfl _ rfl _ rfl _ rfl _ rfl _ rfl _ rfl _ rfl _ rfl _ rfl _ rfl _ rfl _ rfl _ rfl _ rfl _ rfl _ rfl _ rfl
            simp only [Act.put, List.setIfInBounds_toArray, List.set_cons_zero, List.set_cons_succ, REnd]
            try simp only [Exit.then]
            go_wp2
            go_ret
            exact ⟨rfl, hbw.trans (hG.mono hbw.size)⟩

/-- What the walk gives, for every argument and every world that holds the table. -/
theorem packFills_contract (H : Type) (enc : TypeId × Value → H) (W : World) (base : Nat) (args : Array Value) (ds gs : List (DataW H)) (before : List MemPlace)
    (hval : ∀ (j : Nat) t v, Try.f7.params[j]? = some t → args[j]? = some v → Value.okWide Try.prog W .any base t v)
    (hW : DataW.Whole enc Try.prog Try.f7.params.toList Rows.packFillsSpec.vars false W args.toList ds gs before) :
    Calls Try.prog 7 args W fun e W' => ∃ v, e = .returned v ∧ Rows.packFillsSpec.post enc Try.prog Try.f7 false true false false W args v W' := by
  have hW' := hW
  obtain ⟨p, q, hA0, hV, hps, hfz, hnd⟩ := hW
  have hA : DataW.TrodAll enc Try.prog W 0 (fun _ => true) true Try.f7.params.toList args.toList ds p := hA0
  rw [Try.params7] at hA hval
  obtain ⟨v0, vs0, d0, ds0, p0, q0, hargs, rfl, rfl, h0, r0⟩ := trodAll_cons hA
  obtain ⟨v1, vs1, d1, ds1, p1, q1, rfl, rfl, rfl, h1, r1⟩ := trodAll_cons r0
  obtain ⟨rfl, rfl, rfl⟩ := trodAll_nil r1
  obtain rfl : args = #[v0, v1] := by cases args; simp_all
  obtain ⟨rfl, rfl⟩ := trodVars_none hV
  obtain ⟨l0, b0⟩ := bs_of_trod Try.underlying22 Try.underlying5 cellsU8 (hval 0 22 v0 rfl rfl) h0
  obtain ⟨z1, rfl, rfl, rfl, wf1⟩ := open_int Try.underlying3 (hval 1 3 v1 rfl rfl) h1
  clear hA0
  refine (packFills_walk W v0 l0 z1 b0 wf1).mono fun e W' ⟨he, hb⟩ => ?_
  subst he
  exact ⟨_, rfl, law_post laidOut (by rw [Try.params7]; decide +kernel) rfl Try.underlying4 rfl rfl hW' hb⟩

set_option maxRecDepth 100000 in
theorem packFills_lifted (os : Os) (started : os.Started) (H : Type) (enc : TypeId × Value → H) :
    ReturnsInHanded {} Try.checked os 7 .any (Rows.packFillsSpec.pre6 enc Try.prog Try.f7 Rows.packFillsRow.domain false) (Rows.packFillsSpec.post enc Try.prog Try.f7 false true false false) := by
  refine returnsInHanded_of_change (C := Try.checked) own started (by kernel_rfl) Try.func7
    (ChangeSpec.witness6 (enc := enc) (C := Try.checked) false ⟨#[], #[.slice none 0 0, .int .i64 0], []⟩ 8 (by kernel_rfl) (by kernel_rfl) (by kernel_rfl) (by kernel_rfl)) ?_
  intro W base args ds gs before hval hW _ _
  exact packFills_contract H enc W base args ds gs before hval hW

theorem packFills_holds : Rows.PackFillsSaid :=
  OpenClaim.holds_of_wide 7 Try.f7 rfl rfl rfl rfl rfl rfl rfl ⟨rfl, rfl, rfl, rfl, rfl⟩ rfl rfl rfl rfl rfl (by kernel_rfl) Try.func7 (by kernel_rfl)
    (of_decide_eq_true (by kernel_rfl)) (by unfold Func.isWrapper; first | (rw [if_pos (by decide +kernel)]; kernel_rfl) | (rw [if_neg (by decide +kernel)]; exact ⟨rfl, rfl⟩))
    (fun os started H enc _ => packFills_lifted os started H enc)

end Go.Proofs.Ytfedklediafnpaa
