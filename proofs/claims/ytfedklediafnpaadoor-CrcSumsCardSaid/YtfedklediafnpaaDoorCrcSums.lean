/-
  CrcSums: the sum of any parts, and each half, is the document's; in whatever parts octets come, it is that of all. For every input; the table of halves holds what its initialiser lays (the card ties it).
-/
import Derived.Test.YtfedklediafnpaaDoorCrcL
import Derived.Test.YtfedklediafnpaaDoorDoor
import Derived.Test.YtfedklediafnpaaDoorRegion
import Derived.Deep.DeepCutAuto
namespace Go.Proofs.YtfedklediafnpaaDoor
open Go.ChangeShapes Go.WideShapes Go.ChangeAt Go.RowKit

theorem infoBs : (Tryd.prog.info? 23).map (fun i => (i.zero, i.size, i.bytes)) = some (some (.slice none 0 0), 1, 24) := by kernel_rfl
set_option maxRecDepth 100000 in
set_option maxHeartbeats 1000000 in
theorem crcSums_walk (w : World) (v0 : Value) (ls : List (List UInt8)) (z : Int) (hH : Halves w) (h0 : Bss w w.heap.size v0 ls) (wf : (Lit.int .i64 z).wf = true) :
    Calls Tryd.prog 3 #[v0, .int .i64 z] w fun e w' => e = .returned (.bool true) ∧ Below w.heap.size w w' := by
  have hz := wf_i64 wf
  clear wf
  obtain ⟨A0, c0, rfl, hc0, hx0, hcell0⟩ := h0.open_
  go_enter Tryd.func3, Tryd.ntmps3
  go_wp2
  go_loopw [5, 6, 7] (fun x s i wr => ∃ (k : Nat) (us : List Value), k ≤ ls.length ∧ k ≤ 9 ∧ i = .int .i64 k ∧ us.length = k ∧ wr.ownsRow w.heap.size 23 1 x k us ∧ (∀ (j : Nat) u l, us[j]? = some u → (ls.map (·.take 300))[j]? = some l → Bs w w.heap.size u l) ∧
     s = .string ⟨((ls.map (·.take 300)).take k).flatten.toArray⟩ ∧ Below w.heap.size w wr) (fun _ _ i _ => 9 - (intOf i).toNat)
  case atStart => exact ⟨0, [], by omega, by omega, rfl, rfl, World.ownsRow_nil _ _ _ _, fun j u l hu => by simp at hu, rfl, Below.refl _ _⟩
  case round =>
    obtain ⟨k, us, hk, hk9, rfl, hus, hown, hbs, rfl, hbw⟩ := hrel
    by_cases hlt : k < ls.length ∧ k < 9
    · obtain ⟨hl1, hl9⟩ := hlt
      obtain ⟨b, off, u, rfl, hb, hu, hB⟩ := hcell0 k hl1
      have hu' := (hbw.cell (p := ⟨b, off + k, none⟩) hb).trans hu
      have HUS := Lib.hid hus
      have HBS := Lib.hid hbs
      clear hus hbs
      go_wp2_with fail
      refine (few_any _ _ _ _ (hB.ext (Nat.le_refl _) hbw)).mono ?_
      rintro e w' ⟨u1, rfl, b1, rfl⟩
      have hpl : (ls[k].take 300).length ≤ 300 := by rw [List.length_take]; omega
      generalize hp : ls[k].take 300 = p at *
      have HP := Lib.hid hp
      clear hp
      obtain ⟨A1, c1, rfl, hc1, hx1, _⟩ := b1.open_
      go_wp2_with (at_builtin; refine stop_ ?_)
      have hk1 := Blk.new wr 23 #[.slice A1 p.length c1]
      obtain ⟨v', w', hrun, hown', hgr, _⟩ := run_append_rds (P := Tryd.prog) (ty := 22) Tryd.underlying22 infoBs rfl (by decide) (hown.alloc _) (hk1.rds 0 1 1 1 (by simp) (by omega) (by simp [maxLen])) (by simp [Value.oneCell']) (by simp [maxLen]; omega) (by omega) (by have := hbw.size; simp; omega)
      refine wpList_append_run rfl _ _ _ rfl rfl rfl hrun ?_
      have hb2 := (hbw.alloc hbw.size (.cells #[.slice A1 p.length c1] 23)).grown hgr (by have := hbw.size; simp; omega) (fun g hg => (hown.lt g hg).1)
      clear hgr hrun hown hk1
      have hu2 := (hb2.cell (p := ⟨b, off + k, none⟩) hb).trans hu
      clear hu'
      have hpt : List.length (List.flatten ((ls.map (·.take 300)).take k)) ≤ 300 * k := by
        refine Nat.le_trans (flatten_le 300 _ fun l hl => ?_) (Nat.mul_le_mul_left _ (by rw [List.length_take]; omega))
        obtain ⟨m, _, rfl⟩ := List.mem_map.1 (List.mem_of_mem_take hl)
        rw [List.length_take]; omega
      generalize hfl : List.flatten ((ls.map (·.take 300)).take k) = fl at *
      have HFL := Lib.hid hfl
      clear hfl
      go_wp2_with fail
      refine (few_any _ _ _ _ (hB.ext (Nat.le_refl _) hb2)).mono ?_
      rintro e w3 ⟨u2, rfl, b2, rfl⟩
      rw [HP.out] at b2
      obtain ⟨A2, c2, rfl, hc2, hx2, _⟩ := b2.open_
      have hcv := run_string_of (P := Tryd.prog) b2 23 9 5 Tryd.underlying23 Tryd.underlying5 Tryd.underlying9
      have hsz : fl.length + p.length ≤ 9223372036854775807 := by omega
      go_wp2
      go_roundw
      case rel =>
        refine ⟨k + 1, us ++ [.slice A1 p.length c1], by omega, by omega, by go_num, by simp [HUS.out], hown', ?_, ?_, hb2⟩
        · intro j x l hx hl
          by_cases hj : j < us.length
          · rw [List.getElem?_append_left hj] at hx
            exact HBS.out j x l hx hl
          · rw [List.getElem?_append_right (by omega)] at hx
            by_cases hjk : j = k
            · subst hjk
              rw [HUS.out, Nat.sub_self] at hx
              simp only [List.getElem?_cons_zero, Option.some.injEq] at hx
              rw [List.getElem?_map, List.getElem?_eq_getElem hl1, Option.map_some, Option.some.injEq, HP.out] at hl
              rw [← hx, ← hl]
              exact b1.back hbw
            · exfalso
              rw [HUS.out] at hx hj
              cases hq' : j - k with
              | zero => omega
              | succ q' => rw [hq'] at hx; simp at hx
        · rw [Crc.flat_snoc _ k (by simpa using hl1), HFL.out, List.getElem_map, HP.out, ← ba_append]
      case measure => simp [intOf]; omega
    · have hus' : us.length = k := hus
      have hX : Bss wr wr.heap.size u5 ((ls.map (·.take 300)).take k) := by
        have hkl : ((ls.map (·.take 300)).take k).length = k := by rw [List.length_take, List.length_map]; omega
        refine ⟨us, by rw [hus, hkl], by rw [hkl]; exact Rds.of_own hown, fun j x l hx hl => ?_⟩
        refine ((hbs j x l hx ?_).ext (Nat.le_refl _) hbw).more hbw.size
        rw [List.getElem?_take] at hl
        split at hl
        · exact hl
        · cases hl
      have hfl : List.length (List.flatten ((ls.map (·.take 300)).take k)) ≤ 300 * 9 := by
        refine Nat.le_trans (flatten_le 300 _ fun l hl => ?_) (Nat.mul_le_mul_left _ (by rw [List.length_take]; omega))
        obtain ⟨m, _, rfl⟩ := List.mem_map.1 (List.mem_of_mem_take hl)
        rw [List.length_take]; omega
      generalize (ls.map (·.take 300)).take k = pp at *
      generalize hff : pp.flatten = fl at *
      have HF := Lib.hid hff
      clear hus hbs hown hus' hff
      have hH' := hH.ext hbw
      by_cases hkl : k < ls.length
      · have h9 : ¬ (k : Int) < 9 := by omega
        clear hlt
        go_upto_region 9 with fail
        go_cut [40] (fun s wx => wr = wx ∧ s = .bool (decide (0 ≤ z ∧ z ≤ 15)))
        case first =>
          by_cases hz1 : 0 ≤ z
          · by_cases hz2 : z ≤ 15
            · go_wp2
              go_meet
              exact ⟨rfl, congrArg Value.bool (decide_eq_true ⟨hz1, hz2⟩).symm⟩
            · go_wp2
              go_meet
              exact ⟨rfl, congrArg Value.bool (decide_eq_false (fun h => absurd h.2 (by omega))).symm⟩
          · go_wp2
            go_meet
            exact ⟨rfl, congrArg Value.bool (decide_eq_false (fun h => absurd h.1 (by omega))).symm⟩
        obtain ⟨rfl, rfl⟩ := hcut
        go_upto_if 40 with fail
        go_cut [8] (fun s wx => wr = wx ∧ s = .int .u32 (halfI z : Nat))
        case first =>
          by_cases hz0 : 0 ≤ z ∧ z ≤ 15
          · rw [decide_eq_true hz0]
            obtain ⟨z0, z15⟩ := hz0
            obtain ⟨zn, rfl⟩ := Int.eq_ofNat_of_zero_le z0
            have HH := Lib.hid (show halfI (zn : Int) = Crc.steps zn 4 by
              unfold halfI
              rw [if_pos ⟨z0, by omega⟩, Int.toNat_natCast]
              exact Crc.half_steps ⟨zn, by omega⟩)
            go_wp2_with fail
            refine (rsteps_any _ zn 4 (by omega) (by omega)).mono ?_
            rintro e w' ⟨rfl, rfl⟩
            go_wp2
            go_meet
            exact ⟨rfl, by rw [HH.out]⟩
          · have HH := Lib.hid (show halfI z = 0 by unfold halfI; rw [if_neg (by omega)])
            rw [decide_eq_false hz0]
            clear hz0
            go_wp2
            go_meet
            exact ⟨rfl, by rw [HH.out]; rfl⟩
        case rest =>
          obtain ⟨rfl, rfl⟩ := hcut
          go_wp2_with fail
          refine (sum_any _ _ _ _ hH' hX).mono ?_
          rintro e w' ⟨rfl, rfl⟩
          rw [HF.out]
          go_wp2_with fail
          refine (rsum_any _ fl (by omega)).mono ?_
          rintro e w' ⟨rfl, rfl⟩
          go_wp2_with fail
          obtain ⟨vb, wb, hrunb, hbb, hbelb⟩ := run_bytes_of (P := Tryd.prog) wr fl (by rw [maxLen_eq]; omega) 9 23 5 Tryd.underlying9 Tryd.underlying23 Tryd.underlying5
          rw [hrunb]
          obtain ⟨A4, c4, rfl, hc4, hx4, _⟩ := hbb.open_
          clear hrunb
          have hbl := hbelb.alloc hbelb.size (.cells #[.slice A4 fl.length c4] 23)
          have hHb := (hH'.ext hbelb).alloc (.cells #[.slice A4 fl.length c4] 23)
          go_wp2_with fail
          refine (sum_any _ _ _ [fl] hHb (Bss.lit1 _ hbb)).mono ?_
          rintro e w' ⟨rfl, rfl⟩
          simp only [List.flatten_cons, List.flatten_nil, List.append_nil]
          generalize wb.alloc (.cells #[.slice A4 fl.length c4] 23) = wd at *
          go_wp2_with fail
          refine (rsum_any _ fl (by omega)).mono ?_
          rintro e w' ⟨rfl, rfl⟩
          go_wp2_with fail
          refine (half_any _ z hHb).mono ?_
          rintro e w' ⟨rfl, rfl⟩
          go_wp2_with fail
          refine (awake_any _ hHb).mono ?_
          rintro e w' ⟨rfl, hb5⟩
          go_wp2
          go_ret
          exact ⟨rfl, hbw.trans ((hbl.trans (hb5.mono hbl.size)).mono hbw.size)⟩
      · have hkl' : ¬ (k : Int) < ls.length := by omega
        clear hlt
        go_upto_region 9 with fail
        go_cut [40] (fun s wx => wr = wx ∧ s = .bool (decide (0 ≤ z ∧ z ≤ 15)))
        case first =>
          by_cases hz1 : 0 ≤ z
          · by_cases hz2 : z ≤ 15
            · go_wp2
              go_meet
              exact ⟨rfl, congrArg Value.bool (decide_eq_true ⟨hz1, hz2⟩).symm⟩
            · go_wp2
              go_meet
              exact ⟨rfl, congrArg Value.bool (decide_eq_false (fun h => absurd h.2 (by omega))).symm⟩
          · go_wp2
            go_meet
            exact ⟨rfl, congrArg Value.bool (decide_eq_false (fun h => absurd h.1 (by omega))).symm⟩
        obtain ⟨rfl, rfl⟩ := hcut
        go_upto_if 40 with fail
        go_cut [8] (fun s wx => wr = wx ∧ s = .int .u32 (halfI z : Nat))
        case first =>
          by_cases hz0 : 0 ≤ z ∧ z ≤ 15
          · rw [decide_eq_true hz0]
            obtain ⟨z0, z15⟩ := hz0
            obtain ⟨zn, rfl⟩ := Int.eq_ofNat_of_zero_le z0
            have HH := Lib.hid (show halfI (zn : Int) = Crc.steps zn 4 by
              unfold halfI
              rw [if_pos ⟨z0, by omega⟩, Int.toNat_natCast]
              exact Crc.half_steps ⟨zn, by omega⟩)
            go_wp2_with fail
            refine (rsteps_any _ zn 4 (by omega) (by omega)).mono ?_
            rintro e w' ⟨rfl, rfl⟩
            go_wp2
            go_meet
            exact ⟨rfl, by rw [HH.out]⟩
          · have HH := Lib.hid (show halfI z = 0 by unfold halfI; rw [if_neg (by omega)])
            rw [decide_eq_false hz0]
            clear hz0
            go_wp2
            go_meet
            exact ⟨rfl, by rw [HH.out]; rfl⟩
        case rest =>
          obtain ⟨rfl, rfl⟩ := hcut
          go_wp2_with fail
          refine (sum_any _ _ _ _ hH' hX).mono ?_
          rintro e w' ⟨rfl, rfl⟩
          rw [HF.out]
          go_wp2_with fail
          refine (rsum_any _ fl (by omega)).mono ?_
          rintro e w' ⟨rfl, rfl⟩
          go_wp2_with fail
          obtain ⟨vb, wb, hrunb, hbb, hbelb⟩ := run_bytes_of (P := Tryd.prog) wr fl (by rw [maxLen_eq]; omega) 9 23 5 Tryd.underlying9 Tryd.underlying23 Tryd.underlying5
          rw [hrunb]
          obtain ⟨A4, c4, rfl, hc4, hx4, _⟩ := hbb.open_
          clear hrunb
          have hbl := hbelb.alloc hbelb.size (.cells #[.slice A4 fl.length c4] 23)
          have hHb := (hH'.ext hbelb).alloc (.cells #[.slice A4 fl.length c4] 23)
          go_wp2_with fail
          refine (sum_any _ _ _ [fl] hHb (Bss.lit1 _ hbb)).mono ?_
          rintro e w' ⟨rfl, rfl⟩
          simp only [List.flatten_cons, List.flatten_nil, List.append_nil]
          generalize wb.alloc (.cells #[.slice A4 fl.length c4] 23) = wd at *
          go_wp2_with fail
          refine (rsum_any _ fl (by omega)).mono ?_
          rintro e w' ⟨rfl, rfl⟩
          go_wp2_with fail
          refine (half_any _ z hHb).mono ?_
          rintro e w' ⟨rfl, rfl⟩
          go_wp2_with fail
          refine (awake_any _ hHb).mono ?_
          rintro e w' ⟨rfl, hb5⟩
          go_wp2
          go_ret
          exact ⟨rfl, hbw.trans ((hbl.trans (hb5.mono hbl.size)).mono hbw.size)⟩

/-- What the walk gives, for every argument and every world that holds the table. -/
theorem crcSums_contract (H : Type) (enc : TypeId × Value → H) (W : World) (base : Nat) (args : Array Value) (ds gs : List (DataW H)) (before : List MemPlace)
    (hval : ∀ (j : Nat) t v, Tryd.f3.params[j]? = some t → args[j]? = some v → Value.okWide Tryd.prog W .any base t v)
    (hW : DataW.Whole enc Tryd.prog Tryd.f3.params.toList Rows.crcSumsSpec.vars false W args.toList ds gs before) (hL : laidMetH Tryd.prog Rows.crcSumsRow.laid W) :
    Calls Tryd.prog 3 args W fun e W' => ∃ v, e = .returned v ∧ Rows.crcSumsSpec.post enc Tryd.prog Tryd.f3 false true false false W args v W' := by
  have hW' := hW
  obtain ⟨p, q, hA0, hV, hps, hfz, hnd⟩ := hW
  have hA : DataW.TrodAll enc Tryd.prog W 0 (fun _ => true) true Tryd.f3.params.toList args.toList ds p := hA0
  rw [Tryd.params3] at hA hval
  obtain ⟨v0, vs0, d0, ds0, p0, q0, hargs, rfl, rfl, h0, r0⟩ := trodAll_cons hA
  obtain ⟨v1, vs1, d1, ds1, p1, q1, rfl, rfl, rfl, h1, r1⟩ := trodAll_cons r0
  obtain ⟨rfl, rfl, rfl⟩ := trodAll_nil r1
  obtain rfl : args = #[v0, v1] := by cases args; simp_all
  obtain ⟨rfl, rfl⟩ := trodVars_none hV
  obtain ⟨l0, b0⟩ := bss_of_trod Tryd.underlying22 Tryd.underlying23 Tryd.underlying5 (by kernel_rfl) cellsU8 (hval 0 22 v0 rfl rfl) h0
  obtain ⟨z1, rfl, rfl, rfl, wf1⟩ := open_int Tryd.underlying3 (hval 1 3 v1 rfl rfl) h1
  clear hA0
  refine (crcSums_walk W v0 l0 z1 (halves_of hL) b0 wf1).mono fun e W' ⟨he, hb⟩ => ?_
  subst he
  exact ⟨_, rfl, law_post laidOut (by rw [Tryd.params3]; decide +kernel) rfl Tryd.underlying4 rfl rfl hW' hb⟩

theorem crcSums_met (os : Os) : laidMet Tryd.prog Rows.crcSumsRow.laid ((laidWorld os).forCall (fun _ _ => 0) ⟨#[], #[.slice none 0 0, .int .i64 0], []⟩).memory :=
  laidMet_of_run' 8 (by kernel_rfl) (by kernel_rfl)
theorem crcSums_reads (os : Os) {H : Type} (enc : TypeId × Value → H) : ∃ places, DataW.whole enc Tryd.prog ((laidWorld os).forCall (fun _ _ => 0) ⟨#[], #[.slice none 0 0, .int .i64 0], []⟩).memory Tryd.f3.params.toList Rows.crcSumsSpec.vars false (#[.slice none 0 0, .int .i64 0] : Array Value).toList 8 = some ([.nil, .lit (.int .i64 0)], [], places) :=
  ⟨[], by kernel_rfl⟩

set_option maxRecDepth 100000 in
theorem crcSums_lifted (os : Os) (started : os.Started) (H : Type) (enc : TypeId × Value → H) (F : Stop.Interp) :
    ReturnsInHanded {} Tryd.checked os 3 .any ((OpenSpec.ofChange Rows.crcSumsSpec).preRow enc Tryd.prog Tryd.f3 Rows.crcSumsRow.domain false Rows.crcSumsRow.laid) (((OpenSpec.ofChange Rows.crcSumsSpec).at F).post enc Tryd.prog Tryd.f3 false true false false) := by
  obtain ⟨places, hx⟩ := crcSums_reads os enc
  refine returnsInHanded_of_row (C := Tryd.checked) (s := OpenSpec.ofChange Rows.crcSumsSpec) own started (by kernel_rfl) Tryd.func3
    (witness_row_at (enc := enc) (C := Tryd.checked) false (laidWorld os) #[.slice none 0 0, .int .i64 0] rfl (by kernel_rfl) (by kernel_rfl) (by kernel_rfl)
      (OpenSpec.preRow_of_cond 8 hx (by kernel_rfl) (fun k hk => by cases hk) (by kernel_rfl) (crcSums_met os))) ?_
  intro W base args ds gs before hval hW _ _ _ hL _ _
  exact crcSums_contract H enc W base args ds gs before hval hW hL

theorem crcSums_said : Rows.CrcSumsSaid :=
  OpenClaim.holds_of_cond 3 Tryd.f3 rfl rfl rfl rfl rfl rfl rfl ⟨rfl, rfl, rfl, rfl, rfl⟩ rfl rfl rfl rfl rfl (by kernel_rfl) Tryd.func3 (by kernel_rfl)
    (of_decide_eq_true (by kernel_rfl)) (by unfold Func.isWrapper; first | (rw [if_pos (by decide +kernel)]; kernel_rfl) | (rw [if_neg (by decide +kernel)]; exact ⟨rfl, rfl⟩))
    (fun os started H enc _ F => by rw [OpenClaim.pre_eq_preRow]; exact crcSums_lifted os started H enc F)

theorem crcSums_plain (f : FuncId) (fn : Func) (hf : Tryd.pinned.checked.prog.funcNamed "haymow/haymowlaw02.CrcSums" = some f) (hfn : Tryd.pinned.checked.prog.funcs[f]? = some fn) :
    false = Tryd.pinned.checked.prog.looks [] ∧ ∀ (j : Nat) t, fn.params[j]? = some t → Tryd.pinned.checked.prog.wantsStandIn t = false := by
  obtain rfl : f = 3 := Option.some.inj ((show Tryd.prog.funcNamed "haymow/haymowlaw02.CrcSums" = some 3 by kernel_rfl).symm.trans hf) |>.symm
  obtain rfl : fn = Tryd.f3 := (Option.some.inj (Tryd.func3.symm.trans hfn)).symm
  refine ⟨by kernel_rfl, fun j t ht => ?_⟩
  rw [Tryd.params3] at ht
  have hall : ∀ t ∈ (Tryd.f3).params.toList, Tryd.prog.wantsStandIn t = false := by rw [Tryd.params3]; decide +kernel
  exact hall t (by rw [Tryd.params3]; exact Array.mem_toList_iff.2 (Array.mem_of_getElem? ht))

/-- THE CARD. -/
theorem crcSums_holds : Rows.CrcSumsCardSaid :=
  Claim7.holds_tied_plain_at .later [] _ _ _ _ crcSums_said (fun _ h => by cases h) (by kernel_rfl) (fun _ h => by cases h) crcSums_row_tie rfl ⟨rfl, rfl⟩ (by kernel_rfl) rfl crcSums_plain (by kernel_rfl)

end Go.Proofs.YtfedklediafnpaaDoor
