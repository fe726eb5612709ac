/-
  CkptKeeps: whatever the other place has, a checkpoint in its place is chosen, or one whose number is greater. For every input.
-/
import Derived.Test.YtkkbmhlmgbepjaaDoorCkL
namespace Go.Proofs.YtkkbmhlmgbepjaaDoor
open Go.ChangeShapes Go.WideShapes Go.ChangeAt Go.RowKit

theorem chs_even (X : Ck.Ck) (b : List UInt8) (hm : Ck.mayB X = true) (hg : Ck.Good X) (h : X.s % 2 = 0) : (chs (Ck.ckE X) b 2).s ≠ 0 ∧ (chs (Ck.ckE X) b 2 = X ∨ X.s < (chs (Ck.ckE X) b 2).s) := by
  have hbk := Ck.ck_back X hm hg
  have hd : dec (Ck.ckE X) = X := by unfold dec; rw [if_pos hbk.2]; exact hbk.1
  have hp := (Ck.may_parts hm).1
  have h1 : chs1 (Ck.ckE X) = X := by
    unfold chs1
    rw [hd, if_pos ⟨hbk.2, h, by show (0 : Int) < _; omega⟩]
  show (chs2 (Ck.ckE X) b).s ≠ 0 ∧ (chs2 (Ck.ckE X) b = X ∨ X.s < (chs2 (Ck.ckE X) b).s)
  unfold chs2
  rw [h1]
  split
  · rename_i hq
    exact ⟨by omega, .inr hq.2.2⟩
  · exact ⟨by omega, .inl rfl⟩
theorem chs_odd (X : Ck.Ck) (a : List UInt8) (hm : Ck.mayB X = true) (hg : Ck.Good X) (h : X.s % 2 = 1) : (chs a (Ck.ckE X) 2).s ≠ 0 ∧ (chs a (Ck.ckE X) 2 = X ∨ X.s < (chs a (Ck.ckE X) 2).s) := by
  have hbk := Ck.ck_back X hm hg
  have hd : dec (Ck.ckE X) = X := by unfold dec; rw [if_pos hbk.2]; exact hbk.1
  have hp := (Ck.may_parts hm).1
  have h1 : (chs1 a).s % 2 = 0 := by
    unfold chs1
    split
    · rename_i hq; exact hq.2.1
    · rfl
  show (chs2 a (Ck.ckE X)).s ≠ 0 ∧ (chs2 a (Ck.ckE X) = X ∨ X.s < (chs2 a (Ck.ckE X)).s)
  unfold chs2
  rw [hd]
  split
  · exact ⟨by omega, .inl rfl⟩
  · rename_i hq
    have : ¬ (chs1 a).s < X.s := fun hh => hq ⟨hbk.2, h, hh⟩
    refine ⟨by omega, .inr (by omega)⟩

set_option maxRecDepth 100000 in
set_option maxHeartbeats 8000000 in
theorem ckptKeeps_walk (w : World) (X : Ck.Ck) (v : Value) (l : List UInt8) (hgd : Ck.Good X) (hH : Halves w) (h : Bs w w.heap.size v l) :
    Calls Tryd.prog 5 #[cagg X, v] w fun e w' => e = .returned (.bool true) ∧ Below w.heap.size w w' := by
  have HXL := Lib.hid (And.intro hgd.1 hgd.2.1)
  have HGD := Lib.hid hgd
  clear hgd
  unfold cagg
  go_enter Tryd.func5, Tryd.ntmps5
  go_upto_region 1 with (fail)
  have i0 := Blk.new w 28 (ccells X).toArray
  have c0 := (Below.refl w.heap.size w).alloc (Nat.le_refl _) (.cells (ccells X).toArray 28)
  change Blk _ _ _ (ccells X) at i0
  generalize w.alloc (.cells (ccells X).toArray 28) = w0 at *
  generalize w.heap.size = g2 at i0 ⊢
  go_wp2_with fail
  refine (few_any w0 v _ l (h.ext (Nat.le_refl _) c0)).mono ?_
  rintro e w' ⟨u1, rfl, h1, rfl⟩
  have hl1 : (l.take 200).length ≤ 200 := by rw [List.length_take]; omega
  clear h
  generalize l.take 200 = q at *
  have HQ := Lib.hid (h1.more c0.size)
  clear h1
  have r0 := i0.range
  go_wp2_with (refine wpList_load_at 28 (.tmp 2) rfl rfl g2 0 rfl (ccells X) _ r0 Tryd.underlying28 rfl (infoC _ HXL.out.1 HXL.out.2) ?_)
  clear r0
  cases hm : Ck.mayB X with
  | false =>
    have HM := Lib.hid hm
    clear hm
    refine (encodeC_no X _ HXL.out.1 HXL.out.2 HM.out).mono ?_
    rintro e w1 ⟨rfl, b1⟩
    have i1 := i0.ext b1
    have c1 := c0.trans (b1.mono c0.size)
    have r1 := i1.range
    go_wp2_with (refine wpList_load_at 28 (.tmp 2) rfl rfl g2 0 rfl (ccells X) _ r1 Tryd.underlying28 rfl (infoC _ HXL.out.1 HXL.out.2) ?_)
    refine (rmayC_any X _ HXL.out.1 HXL.out.2).mono ?_
    rintro e w2 ⟨rfl, b2⟩
    rw [HM.out]
    have c2 := c1.trans (b2.mono c1.size)
    clear r1
    go_wp2_with fail
    refine (awakeC_any _ (hH.ext c2)).mono ?_
    rintro e w3 ⟨rfl, b3⟩
    go_wp2
    go_ret
    exact ⟨rfl, c2.trans (b3.mono c2.size)⟩
  | true =>
    have HM := Lib.hid hm
    have HPL := Lib.hid (show plc X = X.s % 2 by unfold plc; rw [hm]; rfl)
    have HEV := Lib.hid (fun h => chs_even X q hm HGD.out h)
    have HOD := Lib.hid (fun h => chs_odd X q hm HGD.out h)
    have hbd := (Ck.may_parts hm).1
    have z1 : 1 ≤ X.s := by omega
    have z2 : X.s ≤ 281474976710655 := by omega
    clear hm hbd
    refine (encodeC_yes X _ HGD.out HM.out (hH.ext c0)).mono ?_
    rintro e w1 ⟨s1, rfl, hbs, b1⟩
    have HS1 := Lib.hid hbs
    have i1 := i0.ext b1
    have c1 := c0.trans (b1.mono c0.size)
    have HQ1 := Lib.hid ((HQ.out.ext (Nat.le_refl _) b1).more b1.size)
    clear i0 c0 b1 HQ hbs
    go_wp2_with fail
    refine (chooseC_any w1 s1 u1 _ _ (hH.ext c1) HS1.out HQ1.out).mono ?_
    rintro e w2 ⟨rfl, b2⟩
    have HLY := Lib.hid (chs_len (Ck.ckE X) q 2)
    have HLZ := Lib.hid (chs_len q (Ck.ckE X) 2)
    have HC2 := Lib.hid (fun W (b : Below w1.heap.size w1 W) => chooseC_any W u1 s1 q (Ck.ckE X) (hH.ext (c1.trans (b.mono c1.size))) ((HQ1.out.ext (Nat.le_refl _) b).more b.size) ((HS1.out.ext (Nat.le_refl _) b).more b.size))
    unfold ChoR at HC2
    generalize chs (Ck.ckE X) q 2 = Y at *
    generalize chs q (Ck.ckE X) 2 = Z at *
    generalize hE : (if Y.s = 0 then (6 : Int) else 0) = E at *
    have HE := Lib.hid hE
    generalize hG : (if Z.s = 0 then (6 : Int) else 0) = G at *
    have HG := Lib.hid hG
    clear hE hG
    unfold cagg at HC2 ⊢
    have i2 := i1.ext b2
    have c2 := c1.trans (b2.mono c1.size)
    clear i1
    go_upto_region 6 with (with_reducible refine wpList_store_new rfl 28 (.tmp 7) (.tmp 28) rfl (ccells Y) rfl rfl ?_ rfl (infoC _ HLY.out.1 HLY.out.2) ccells_one ?_)
    · rw [ccells_len _ HLY.out.1 HLY.out.2]; exact Nat.le_refl 19
    generalize hW : (w2.alloc (.cells _ 28)).setCells w2.heap.size 0 _ = w3
    have k3 : Blk w3 w2.heap.size 28 (ccells Y) := by rw [← hW]; exact Blk.varC rfl HLY.out.1 HLY.out.2
    have b3 : Below w2.heap.size w2 w3 := by rw [← hW]; exact below_varC
    clear hW
    have i3 := i2.ext b3
    have c3 := c2.trans (b3.mono c2.size)
    have d3 := b2.trans (b3.mono b2.size)
    have hg7 : w1.heap.size ≤ w2.heap.size := b2.size
    have hg72 : g2 < w2.heap.size := i2.lt
    generalize w2.heap.size = g7 at *
    clear i2 c2 b2 b3
    have r3 := i3.range
    go_wp2_with (refine wpList_load_at 28 (.tmp 2) rfl rfl g2 0 rfl (ccells X) _ r3 Tryd.underlying28 rfl (infoC _ HXL.out.1 HXL.out.2) ?_)
    refine (place_any X _ HXL.out.1 HXL.out.2).mono ?_
    rintro e w4 ⟨rfl, b4⟩
    rw [HPL.out]
    have i4 := i3.ext b4
    have k4 := k3.ext b4
    have c4 := c3.trans (b4.mono c3.size)
    have d4 := d3.trans (b4.mono d3.size)
    clear r3 i3 k3 c3 d3 b4
    by_cases hp : X.s % 2 = 1
    · have hp' : (X.s % 2 == 1) = true := by rw [beq_iff_eq]; exact hp
      have HW := Lib.hid (HOD.out hp)
      obtain rfl : G = 0 := by rw [← HG.out, if_neg HW.out.1]
      clear hp
      go_wp2_with fail
      refine (HC2.out w4 d4).mono ?_
      rintro e w6 ⟨rfl, b6⟩
      have i6 := i4.ext b6
      have k6 := k4.ext b6
      have c6 := c4.trans (b6.mono c4.size)
      clear i4 k4 c4 d4 b6 HC2
      have HLE := Lib.hid (show 0 + (ccells Z).toArray.size ≤ (ccells Y).length by rw [List.size_toArray, ccells_len _ HLZ.out.1 HLZ.out.2, ccells_len _ HLY.out.1 HLY.out.2]; omega)
      go_upto_region 8 with (refine wpList_store_mid rfl 28 (.tmp 7) (.tmp 37) rfl g7 0 (ccells Z).toArray rfl rfl (k6.there 0 _ HLE.out) (infoC _ HLZ.out.1 HLZ.out.2) (all_oneCell_toArray ccells_one) ?_)
      have hz := k6.setCells (ccells Z) 0 (by rw [ccells_len _ HLZ.out.1 HLZ.out.2, ccells_len _ HLY.out.1 HLY.out.2]; omega)
      rw [spl_all _ _ (by rw [ccells_len _ HLZ.out.1 HLZ.out.2, ccells_len _ HLY.out.1 HLY.out.2])] at hz
      have i8 := i6.grown (grown_setCells (g := g7) (ccells Z) w6 0) (fun e => by injection e with e; omega)
      have c8 := below_setCells (o := 0) (vs := ccells Z) c6 (Nat.le_trans c1.size hg7)
      generalize w6.setCells g7 0 _ = w8 at *
      clear i6 k6 c6
      have x0 := i8.cell 0
      have y0 := hz.cell 0
      unfold ccells at x0 y0
      simp only [List.getElem?_cons_zero] at x0 y0
      have rx := i8.range
      have ry := hz.range
      by_cases hxy : Z = X
      · have HD := Lib.hid (show true = decide (Z = X) by rw [hxy]; simp)
        clear hxy
        go_wp2_with (first | refine wpList_load_at 28 (.tmp 7) rfl rfl g7 0 rfl (ccells Z) _ ry Tryd.underlying28 rfl (infoC _ HLZ.out.1 HLZ.out.2) ?_ | refine wpList_load_at 28 (.tmp 2) rfl rfl g2 0 rfl (ccells X) _ rx Tryd.underlying28 rfl (infoC _ HXL.out.1 HXL.out.2) ?_ | refine wpList_binop .eql 28 28 (.tmp 42) (.tmp 43) rfl rfl rfl rfl eqGuardC (run_eql_ck Z X HLZ.out HXL.out true HD.out _).1 ?_)
        refine (awakeC_any _ (hH.ext c8)).mono ?_
        rintro e w9 ⟨rfl, b9⟩
        go_wp2
        go_ret
        exact ⟨rfl, c8.trans (b9.mono c8.size)⟩
      · have HD := Lib.hid (show false = decide (Z = X) by rw [decide_eq_false hxy])
        have hgt : X.s < Z.s := by rcases HW.out.2 with hh | hh; exact absurd hh hxy; exact hh
        clear hxy
        go_wp2_with (first | refine wpList_load_at 28 (.tmp 7) rfl rfl g7 0 rfl (ccells Z) _ ry Tryd.underlying28 rfl (infoC _ HLZ.out.1 HLZ.out.2) ?_ | refine wpList_load_at 28 (.tmp 2) rfl rfl g2 0 rfl (ccells X) _ rx Tryd.underlying28 rfl (infoC _ HXL.out.1 HXL.out.2) ?_ | refine wpList_binop .eql 28 28 (.tmp 42) (.tmp 43) rfl rfl rfl rfl eqGuardC (run_eql_ck Z X HLZ.out HXL.out false HD.out _).1 ?_)
        refine (awakeC_any _ (hH.ext c8)).mono ?_
        rintro e w9 ⟨rfl, b9⟩
        go_wp2
        go_ret
        exact ⟨rfl, c8.trans (b9.mono c8.size)⟩
    · have hp' : (X.s % 2 == 1) = false := by rw [beq_eq_false_iff_ne]; exact hp
      have HW := Lib.hid (HEV.out (by omega))
      obtain rfl : E = 0 := by rw [← HE.out, if_neg HW.out.1]
      clear hp HC2
      have i8 := i4
      have c8 := c4
      clear i4 c4
      have x0 := i8.cell 0
      have y0 := k4.cell 0
      unfold ccells at x0 y0
      simp only [List.getElem?_cons_zero] at x0 y0
      have rx := i8.range
      have ry := k4.range
      by_cases hxy : Y = X
      · have HD := Lib.hid (show true = decide (Y = X) by rw [hxy]; simp)
        clear hxy
        go_wp2_with (first | refine wpList_load_at 28 (.tmp 7) rfl rfl g7 0 rfl (ccells Y) _ ry Tryd.underlying28 rfl (infoC _ HLY.out.1 HLY.out.2) ?_ | refine wpList_load_at 28 (.tmp 2) rfl rfl g2 0 rfl (ccells X) _ rx Tryd.underlying28 rfl (infoC _ HXL.out.1 HXL.out.2) ?_ | refine wpList_binop .eql 28 28 (.tmp 42) (.tmp 43) rfl rfl rfl rfl eqGuardC (run_eql_ck Y X HLY.out HXL.out true HD.out _).1 ?_)
        refine (awakeC_any _ (hH.ext c8)).mono ?_
        rintro e w9 ⟨rfl, b9⟩
        go_wp2
        go_ret
        exact ⟨rfl, c8.trans (b9.mono c8.size)⟩
      · have HD := Lib.hid (show false = decide (Y = X) by rw [decide_eq_false hxy])
        have hgt : X.s < Y.s := by rcases HW.out.2 with hh | hh; exact absurd hh hxy; exact hh
        clear hxy
        go_wp2_with (first | refine wpList_load_at 28 (.tmp 7) rfl rfl g7 0 rfl (ccells Y) _ ry Tryd.underlying28 rfl (infoC _ HLY.out.1 HLY.out.2) ?_ | refine wpList_load_at 28 (.tmp 2) rfl rfl g2 0 rfl (ccells X) _ rx Tryd.underlying28 rfl (infoC _ HXL.out.1 HXL.out.2) ?_ | refine wpList_binop .eql 28 28 (.tmp 42) (.tmp 43) rfl rfl rfl rfl eqGuardC (run_eql_ck Y X HLY.out HXL.out false HD.out _).1 ?_)
        refine (awakeC_any _ (hH.ext c8)).mono ?_
        rintro e w9 ⟨rfl, b9⟩
        go_wp2
        go_ret
        exact ⟨rfl, c8.trans (b9.mono c8.size)⟩

/-- What the walk gives, for every argument and every world that holds the table. -/
theorem ckptKeeps_contract (H : Type) (enc : TypeId × Value → H) (W : World) (base : Nat) (args : Array Value) (ds gs : List (DataW H)) (before : List MemPlace)
    (hval : ∀ (j : Nat) t v, Tryd.f5.params[j]? = some t → args[j]? = some v → Value.okWide Tryd.prog W .any base t v)
    (hW : DataW.Whole enc Tryd.prog Tryd.f5.params.toList Rows.ckptKeepsSpec.vars false W args.toList ds gs before) (hL : laidMetH Tryd.prog Rows.ckptKeepsRow.laid W) :
    Calls Tryd.prog 5 args W fun e W' => ∃ v, e = .returned v ∧ Rows.ckptKeepsSpec.post enc Tryd.prog Tryd.f5 false true false false W args v W' := by
  have hW' := hW
  obtain ⟨p, q, hA0, hV, hps, hfz, hnd⟩ := hW
  have hA : DataW.TrodAll enc Tryd.prog W 0 (fun _ => true) true Tryd.f5.params.toList args.toList ds p := hA0
  rw [Tryd.params5] at hA hval
  obtain ⟨v0, vs0, d0, ds0, p0, q0, hargs, rfl, rfl, h0, r0⟩ := trodAll_cons hA
  obtain ⟨v1, vs1, d1, ds1, p1, q1, rfl, rfl, rfl, h1, r1⟩ := trodAll_cons r0
  obtain ⟨rfl, rfl, rfl⟩ := trodAll_nil r1
  obtain rfl : args = #[v0, v1] := by cases args; simp_all
  obtain ⟨rfl, rfl⟩ := trodVars_none hV
  obtain ⟨zs0, hzl0, rfl, wfz0⟩ := ints_of_agg 4 cks (by kernel_rfl) (okWide_struct Tryd.underlying28 (hval 0 28 v0 rfl rfl)) (by kernel_rfl) h0
  obtain ⟨X0, g0, e0, q0, r0⟩ := ck_of_ints zs0 hzl0 wfz0
  rw [e0] at hW' ⊢
  obtain ⟨l1, b1⟩ := bs_of_trod Tryd.underlying29 Tryd.underlying5 cellsU8 (hval 1 29 v1 rfl rfl) h1
  clear hA0
  refine (ckptKeeps_walk W X0 v1 l1 g0 (halves_of hL) b1).mono fun e W' ⟨he, hb⟩ => ?_
  subst he
  exact ⟨_, rfl, law_post laidOut (by rw [Tryd.params5]; decide +kernel) rfl Tryd.underlying4 rfl rfl hW' hb⟩

theorem ckptKeeps_met (os : Os) : laidMet Tryd.prog Rows.ckptKeepsRow.laid ((laidWorld os).forCall (fun _ _ => 0) ⟨#[], #[.agg #[.int .i64 0, .int .i64 0, .int .i64 0, .int .i64 0, .int .u32 0, .int .i64 0, .int .u32 0, .int .i64 0, .int .u32 0, .int .i64 0, .int .u32 0, .int .i64 0, .int .i64 0, .int .i64 0, .int .i64 0, .int .i64 0, .int .i64 0, .int .i64 0, .int .i64 0], .slice none 0 0], []⟩).memory :=
  laidMet_of_run' 8 (by kernel_rfl) (by kernel_rfl)
theorem ckptKeeps_reads (os : Os) {H : Type} (enc : TypeId × Value → H) : ∃ places, DataW.whole enc Tryd.prog ((laidWorld os).forCall (fun _ _ => 0) ⟨#[], #[.agg #[.int .i64 0, .int .i64 0, .int .i64 0, .int .i64 0, .int .u32 0, .int .i64 0, .int .u32 0, .int .i64 0, .int .u32 0, .int .i64 0, .int .u32 0, .int .i64 0, .int .i64 0, .int .i64 0, .int .i64 0, .int .i64 0, .int .i64 0, .int .i64 0, .int .i64 0], .slice none 0 0], []⟩).memory Tryd.f5.params.toList Rows.ckptKeepsSpec.vars false (#[.agg #[.int .i64 0, .int .i64 0, .int .i64 0, .int .i64 0, .int .u32 0, .int .i64 0, .int .u32 0, .int .i64 0, .int .u32 0, .int .i64 0, .int .u32 0, .int .i64 0, .int .i64 0, .int .i64 0, .int .i64 0, .int .i64 0, .int .i64 0, .int .i64 0, .int .i64 0], .slice none 0 0] : Array Value).toList 8 = some ([.agg [.lit (.int .i64 0), .lit (.int .i64 0), .lit (.int .i64 0), .agg [.agg [.lit (.int .i64 0), .lit (.int .u32 0)], .agg [.lit (.int .i64 0), .lit (.int .u32 0)], .agg [.lit (.int .i64 0), .lit (.int .u32 0)], .agg [.lit (.int .i64 0), .lit (.int .u32 0)]], .agg [.lit (.int .i64 0), .lit (.int .i64 0), .lit (.int .i64 0), .lit (.int .i64 0), .lit (.int .i64 0), .lit (.int .i64 0), .lit (.int .i64 0), .lit (.int .i64 0)]], .nil], [], places) :=
  ⟨[], by kernel_rfl⟩

set_option maxRecDepth 100000 in
theorem ckptKeeps_lifted (os : Os) (started : os.Started) (H : Type) (enc : TypeId × Value → H) (F : Stop.Interp) :
    ReturnsInHanded {} Tryd.checked os 5 .any ((OpenSpec.ofChange Rows.ckptKeepsSpec).preRow enc Tryd.prog Tryd.f5 Rows.ckptKeepsRow.domain false Rows.ckptKeepsRow.laid) (((OpenSpec.ofChange Rows.ckptKeepsSpec).at F).post enc Tryd.prog Tryd.f5 false true false false) := by
  obtain ⟨places, hx⟩ := ckptKeeps_reads os enc
  refine returnsInHanded_of_row (C := Tryd.checked) (s := OpenSpec.ofChange Rows.ckptKeepsSpec) own started (by kernel_rfl) Tryd.func5
    (witness_row_at (enc := enc) (C := Tryd.checked) false (laidWorld os) #[.agg #[.int .i64 0, .int .i64 0, .int .i64 0, .int .i64 0, .int .u32 0, .int .i64 0, .int .u32 0, .int .i64 0, .int .u32 0, .int .i64 0, .int .u32 0, .int .i64 0, .int .i64 0, .int .i64 0, .int .i64 0, .int .i64 0, .int .i64 0, .int .i64 0, .int .i64 0], .slice none 0 0] rfl (by kernel_rfl) (by kernel_rfl) (by kernel_rfl)
      (OpenSpec.preRow_of_cond 8 hx (by kernel_rfl) (fun k hk => by cases hk) (by kernel_rfl) (ckptKeeps_met os))) ?_
  intro W base args ds gs before hval hW _ _ _ hL _ _
  exact ckptKeeps_contract H enc W base args ds gs before hval hW hL

theorem ckptKeeps_said : Rows.CkptKeepsSaid :=
  OpenClaim.holds_of_cond 5 Tryd.f5 rfl rfl rfl rfl rfl rfl rfl ⟨rfl, rfl, rfl, rfl, rfl⟩ rfl rfl rfl rfl rfl (by kernel_rfl) Tryd.func5 (by kernel_rfl)
    (of_decide_eq_true (by kernel_rfl)) (by unfold Func.isWrapper; first | (rw [if_pos (by decide +kernel)]; kernel_rfl) | (rw [if_neg (by decide +kernel)]; exact ⟨rfl, rfl⟩))
    (fun os started H enc _ F => by rw [OpenClaim.pre_eq_preRow]; exact ckptKeeps_lifted os started H enc F)

theorem ckptKeeps_plain (f : FuncId) (fn : Func) (hf : Tryd.pinned.checked.prog.funcNamed "haymow/haymowlaw13.CkptKeeps" = some f) (hfn : Tryd.pinned.checked.prog.funcs[f]? = some fn) :
    false = Tryd.pinned.checked.prog.looks [] ∧ ∀ (j : Nat) t, fn.params[j]? = some t → Tryd.pinned.checked.prog.wantsStandIn t = false := by
  obtain rfl : f = 5 := Option.some.inj ((show Tryd.prog.funcNamed "haymow/haymowlaw13.CkptKeeps" = some 5 by kernel_rfl).symm.trans hf) |>.symm
  obtain rfl : fn = Tryd.f5 := (Option.some.inj (Tryd.func5.symm.trans hfn)).symm
  refine ⟨by kernel_rfl, fun j t ht => ?_⟩
  rw [Tryd.params5] at ht
  have hall : ∀ t ∈ (Tryd.f5).params.toList, Tryd.prog.wantsStandIn t = false := by rw [Tryd.params5]; decide +kernel
  exact hall t (by rw [Tryd.params5]; exact Array.mem_toList_iff.2 (Array.mem_of_getElem? ht))

/-- THE CARD. -/
theorem ckptKeeps_holds : Rows.CkptKeepsCardSaid :=
  Claim7.holds_tied_plain_at .later [] _ _ _ _ ckptKeeps_said (fun _ h => by cases h) (by kernel_rfl) (fun _ h => by cases h) ckptKeeps_row_tie rfl ⟨rfl, rfl⟩ (by kernel_rfl) rfl ckptKeeps_plain (by kernel_rfl)

end Go.Proofs.YtkkbmhlmgbepjaaDoor
