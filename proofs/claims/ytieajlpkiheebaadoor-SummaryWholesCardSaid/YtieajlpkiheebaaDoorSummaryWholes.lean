/-
  SummaryWholes: whether any blocks are whole in any part, and the part that is made of any, is as the document says, or it is refused. For every input.
-/
import Derived.Test.YtieajlpkiheebaaDoorSumL
namespace Go.Proofs.YtieajlpkiheebaaDoor
open Go.ChangeShapes Go.WideShapes Go.ChangeAt Go.RowKit

theorem bk9_short (bl : List (List UInt8)) : ∀ b ∈ bk9 bl, b.length ≤ 1000000 := by
  intro b hb
  unfold bk9 at hb
  obtain ⟨c, _, rfl⟩ := List.mem_map.1 hb
  rw [List.length_take]; omega
set_option maxRecDepth 100000 in
set_option maxHeartbeats 8000000 in
theorem summaryWholes_walk (w : World) (s n : Int) (e : Bool) (vl vb : Value) (l : List Sm.En) (bl : List (List UInt8)) (hl : Ents w w.heap.size vl l) (hb : Bss w w.heap.size vb bl) (hH : Halves w) :
    Calls Tryd.prog 5 #[.agg #[.int .i64 s, .int .i64 n, .bool e, vl], vb] w fun r w' => r = .returned (.bool true) ∧ Below w.heap.size w w' := by
  obtain ⟨A, c, rfl, hc, hm, _⟩ := hl.open_
  have HL := Lib.hid hl
  have HBL := Lib.hid hb
  clear hl hb
  go_enter Tryd.func5, Tryd.ntmps5
  go_wp2_with fail
  have x0 := (Below.refl w.heap.size w).alloc (Nat.le_refl _) (.cells #[.int .i64 s, .int .i64 n, .bool e, .slice A l.length c] 24)
  refine (fewS_any _ _ w.heap.size l (HL.out.below x0)).mono ?_
  rintro r w' ⟨u, rfl, hE, rfl⟩
  replace hE : Ents w w.heap.size u (l.take 20) := hE.keep fun p hp => (World.cell?_alloc_lt w _ p hp).symm
  obtain ⟨A2, c2, rfl, _⟩ := hE.open_
  have hm20 : (l.take 20).length ≤ 1000000 := by rw [List.length_take]; omega
  generalize l.take 20 = m at *
  have HE := Lib.hid hE
  clear HL x0 hE
  go_upto_region 2 with (fail)
  have k1 := Blk.new w 24 #[.int .i64 s, .int .i64 n, .bool e, .slice A2 m.length c2]
  have b1 := (Below.refl w.heap.size w).alloc (Nat.le_refl _) (.cells #[.int .i64 s, .int .i64 n, .bool e, .slice A2 m.length c2] 24)
  obtain ⟨w1, hw1⟩ : ∃ w1, w.alloc (.cells #[.int .i64 s, .int .i64 n, .bool e, .slice A2 m.length c2] 24) = w1 := ⟨_, rfl⟩
  rw [hw1] at k1 b1 ⊢
  clear hw1
  obtain ⟨g1, hg1⟩ : ∃ g1, w.heap.size = g1 := ⟨_, rfl⟩
  rw [hg1] at k1 ⊢
  clear hg1
  go_wp2_with fail
  refine (blocks_any w1 _ bl ((HBL.out.ext (Nat.le_refl _) b1).more b1.size)).mono ?_
  rintro r w2 ⟨ub, us, rfl, hB, hS, b2⟩
  have HSH := Lib.hid (bk9_short bl)
  generalize bk9 bl = Q at *
  replace k1 := k1.ext b2
  replace b1 := b1.trans (b2.mono b1.size)
  obtain ⟨Ab, cb, rfl, _⟩ := hB.open_
  obtain ⟨As, cs, rfl, _⟩ := hS.open_
  have HB := Lib.hid hB
  have HS := Lib.hid hS
  clear hB hS b2 HBL
  obtain ⟨wb, hwb⟩ : ∃ wb, whB ⟨s, n, e, m⟩ Q = wb := ⟨_, rfl⟩
  have HWB := Lib.hid hwb
  clear hwb
  go_upto_region 3 with (fail)
  have hG0 : Below w2.heap.size w2 w2.drew := (Below.refl _ _).drew
  refine wp_region_list 7 [(fun y_ _ => y_ = .agg #[.int .i64 s, .int .i64 n, .bool e, .slice A2 m.length c2]),
    (fun y_ _ => y_ = .slice Ab Q.length cb),
    (fun y_ _ => y_ = .bool wb),
    (fun y_ _ => y_ = .agg #[.int .i64 s, .int .i64 n, .bool e, .slice A2 m.length c2]),
    (fun y_ _ => y_ = .slice As Q.length cs),
    (fun y_ _ => y_ = .bool wb),
    (fun y_ _ => y_ = .bool false)]
    (fun q => Below w2.heap.size w2 q) (by kernel_rfl) rfl (by kernel_rfl) ?_ ?_ ?_ ?_
  · exact hG0
  · exact ⟨stab_eq _, stab_eq _, stab_eq _, stab_eq _, stab_eq _, stab_eq _, stab_eq _, trivial⟩
  · refine ⟨?_, ?_, ?_, ?_, ?_, ?_, ?_, trivial⟩
    · intro a x hG hd hs K hK
      have h2 : a.tmps.getD 2 undef = .pointer (some ⟨g1, 0, none⟩) := hs 2 (by kernel_rfl)
      clear hd hs
      refine wpOp_plain rfl rfl ?_
      refine wp_load_mid 24 (.tmp 2) rfl g1 0 h2 [.int .i64 s, .int .i64 n, .bool e, .slice A2 m.length c2] _ (k1.ext hG).range Tryd.underlying24 rfl (by kernel_rfl) ?_
      exact hK _ _ rfl hG (Below.refl _ _)
    · intro a x hG hd hs K hK
      have h1 : a.tmps.getD 1 undef = .slice Ab Q.length cb := hs 1 (by kernel_rfl)
      clear hd hs
      refine wpOp_plain rfl rfl ?_
      go_simp
      exact hK _ _ rfl hG (Below.refl _ _)
    · intro a x hG hd hs K hK
      have h19 : a.tmps.getD 19 undef = .agg #[.int .i64 s, .int .i64 n, .bool e, .slice A2 m.length c2] := hd 0 19 (by kernel_rfl)
      have h20 : a.tmps.getD 20 undef = .slice Ab Q.length cb := hd 1 20 (by kernel_rfl)
      clear hd hs
      refine wpOp_plain rfl rfl ?_
      go_simp
      have y9 := b1.trans (hG.mono b1.size)
      refine (whole_any s n e _ _ m Q _ ((HE.out.below y9).more y9.size) ((HB.out.ext (Nat.le_refl _) hG).more hG.size) (hH.ext y9)).mono ?_
      rintro r w' ⟨rfl, hb⟩
      rw [HWB.out]
      exact hK _ _ rfl (hG.trans (hb.mono hG.size)) hb
    · intro a x hG hd hs K hK
      have h2 : a.tmps.getD 2 undef = .pointer (some ⟨g1, 0, none⟩) := hs 2 (by kernel_rfl)
      clear hd hs
      refine wpOp_plain rfl rfl ?_
      refine wp_load_mid 24 (.tmp 2) rfl g1 0 h2 [.int .i64 s, .int .i64 n, .bool e, .slice A2 m.length c2] _ (k1.ext hG).range Tryd.underlying24 rfl (by kernel_rfl) ?_
      exact hK _ _ rfl hG (Below.refl _ _)
    · intro a x hG hd hs K hK
      have h5 : a.tmps.getD 5 undef = .slice As Q.length cs := hs 5 (by kernel_rfl)
      clear hd hs
      refine wpOp_plain rfl rfl ?_
      go_simp
      exact hK _ _ rfl hG (Below.refl _ _)
    · intro a x hG hd hs K hK
      have h22 : a.tmps.getD 22 undef = .agg #[.int .i64 s, .int .i64 n, .bool e, .slice A2 m.length c2] := hd 3 22 (by kernel_rfl)
      have h23 : a.tmps.getD 23 undef = .slice As Q.length cs := hd 4 23 (by kernel_rfl)
      clear hd hs
      refine wpOp_plain rfl rfl ?_
      go_simp
      have y9 := b1.trans (hG.mono b1.size)
      refine (rwholeS_any s n e _ _ m Q _ ((HE.out.below y9).more y9.size) ((HS.out.below hG).more hG.size) HSH.out).mono ?_
      rintro r w' ⟨rfl, hb⟩
      rw [HWB.out]
      exact hK _ _ rfl (hG.trans (hb.mono hG.size)) hb
    · intro a x hG hd hs K hK
      have h21 : a.tmps.getD 21 undef = .bool wb := hd 2 21 (by kernel_rfl)
      have h24 : a.tmps.getD 24 undef = .bool wb := hd 5 24 (by kernel_rfl)
      clear hd hs
      refine wpOp_plain rfl rfl ?_
      go_simp
      exact hK _ _ rfl hG (Below.refl _ _)
  · intro x hG
    rintro _ rfl _ rfl _ rfl _ rfl _ rfl _ rfl _ rfl
    simp only [Act.put, List.setIfInBounds_toArray, List.set_cons_zero, List.set_cons_succ, REnd]
    try simp only [Exit.then]
    replace k1 := k1.ext hG
    replace b1 := b1.trans (hG.mono b1.size)
    have HB3 := Lib.hid ((HB.out.ext (Nat.le_refl _) hG).more hG.size)
    have HS3 := Lib.hid ((HS.out.below hG).more hG.size)
    clear HB HS hG hG0
    have p0 := k1.cell 0
    have p1 := k1.cell 1
    have p2 := k1.cell 2
    have p3 := k1.cell 3
    have hk1 := k1.lt
    go_wp2_with fail
    refine (of_any s n e _ _ m Q x ((HE.out.below b1).more b1.size) HB3.out (hH.ext b1)).mono ?_
    rintro r w3 (⟨u6, er, rfl, hof, rfl, hE6, b3⟩ | ⟨rfl, hof, b3⟩)
    · have HOF := Lib.hid hof
      obtain ⟨A6, c6, rfl, _⟩ := hE6.open_
      have HE6 := Lib.hid hE6
      generalize hol : ofL m Q = ol at *
      have HOL := Lib.hid hol
      clear hE6 hof hol
      have x3 := b3
      replace k1 := k1.ext b3
      have hk13 := k1.lt
      replace b1 := b1.trans (b3.mono b1.size)
      clear p0 p1 p2 p3 b3
      have k6 := Blk.new w3 24 #[.int .i64 s, .int .i64 n, .bool e, .slice A6 ol.length c6]
      have y6 := (Below.refl w3.heap.size w3).alloc (Nat.le_refl _) (.cells #[.int .i64 s, .int .i64 n, .bool e, .slice A6 ol.length c6] 24)
      replace k1 := k1.ext y6
      replace b1 := b1.trans (y6.mono b1.size)
      replace x3 := x3.trans (y6.mono x3.size)
      have HS4 := Lib.hid ((HS3.out.below x3).more x3.size)
      have HE7 := Lib.hid ((HE6.out.below y6).more y6.size)
      have p0 := k1.cell 0
      have p1 := k1.cell 1
      have p2 := k1.cell 2
      have p3 := k1.cell 3
      have hk1' := k1.lt
      go_upto_region 6 with (fail)
      obtain ⟨w4, hw4⟩ : ∃ w4, w3.alloc (.cells #[.int .i64 s, .int .i64 n, .bool e, .slice A6 ol.length c6] 24) = w4 := ⟨_, rfl⟩
      rw [hw4] at k1 b1 x3 HS4 HE7 p0 p1 p2 p3 k6 hk1' ⊢
      clear hw4 y6 HE6 hk13
      generalize w3.heap.size = g6 at k6 ⊢
      go_wp2_with fail
      refine (rofS_any s n e _ _ m Q w4 ((HE.out.below b1).more b1.size) HS4.out HSH.out hm20).mono ?_
      clear p0 p1 p2 p3
      rintro r w5 (⟨u8, rfl, hof, hE8, b5⟩ | ⟨rfl, hof, b5⟩)
      · have HE8 := Lib.hid hE8
        rw [HOL.out] at HE8
        obtain ⟨A8, c8, rfl, _⟩ := HE8.out.open_
        clear hE8 hof
        replace b1 := b1.trans (b5.mono b1.size)
        replace k6 := k6.ext b5
        have y8 := (Below.refl w5.heap.size w5).alloc (Nat.le_refl _) (.cells #[.int .i64 s, .int .i64 n, .bool e, .slice A8 ol.length c8] 24)
        have z8 := b5.trans (y8.mono b5.size)
        have c9 := b1.trans (y8.mono b1.size)
        have q0 := k6.cell 0
        have q1 := k6.cell 1
        have q2 := k6.cell 2
        have q3 := k6.cell 3
        have hk6 := k6.lt
        go_wp2_with fail
        have HSA := Lib.hid (show sameB ⟨s, n, e, ol⟩ ⟨s, n, e, ol⟩ = true by unfold sameB; simp)
        refine (rsameS_any s n s n e e _ _ ol ol _ ((HE7.out.below z8).more z8.size) ((HE8.out.below y8).more y8.size)).mono ?_
        rintro r w6 ⟨rfl, b6⟩
        rw [HSA.out]
        have c10 := c9.trans (b6.mono c9.size)
        clear q0 q1 q2 q3 z8 y8 c9 b6 k6 b1 b5 k1 x3
        go_wp2_with fail
        refine (awakeS_any w6 (hH.ext c10)).mono ?_
        rintro r w7 ⟨rfl, b7⟩
        go_wp2
        go_ret
        exact ⟨rfl, c10.trans (b7.mono c10.size)⟩
      · exact absurd (hof.symm.trans HOF.out) (by decide)
    · have HOF := Lib.hid hof
      have HE6 := Lib.hid (show Ents w3 w3.heap.size (.slice none 0 0) [] from Rds.nil_ _ _ _)
      clear hof
      have x3 := b3
      replace k1 := k1.ext b3
      have hk13 := k1.lt
      replace b1 := b1.trans (b3.mono b1.size)
      clear p0 p1 p2 p3 b3
      have k6 := Blk.new w3 24 #[.int .i64 0, .int .i64 0, .bool false, .slice none 0 0]
      have y6 := (Below.refl w3.heap.size w3).alloc (Nat.le_refl _) (.cells #[.int .i64 0, .int .i64 0, .bool false, .slice none 0 0] 24)
      replace k1 := k1.ext y6
      replace b1 := b1.trans (y6.mono b1.size)
      replace x3 := x3.trans (y6.mono x3.size)
      have HS4 := Lib.hid ((HS3.out.below x3).more x3.size)
      have HE7 := Lib.hid ((HE6.out.below y6).more y6.size)
      have p0 := k1.cell 0
      have p1 := k1.cell 1
      have p2 := k1.cell 2
      have p3 := k1.cell 3
      have hk1' := k1.lt
      go_upto_region 6 with (fail)
      obtain ⟨w4, hw4⟩ : ∃ w4, w3.alloc (.cells #[.int .i64 0, .int .i64 0, .bool false, .slice none 0 0] 24) = w4 := ⟨_, rfl⟩
      rw [hw4] at k1 b1 x3 HS4 HE7 p0 p1 p2 p3 k6 hk1' ⊢
      clear hw4 y6 HE6 hk13
      generalize w3.heap.size = g6 at k6 ⊢
      go_wp2_with fail
      refine (rofS_any s n e _ _ m Q w4 ((HE.out.below b1).more b1.size) HS4.out HSH.out hm20).mono ?_
      clear p0 p1 p2 p3
      rintro r w5 (⟨u8, rfl, hof, hE8, b5⟩ | ⟨rfl, hof, b5⟩)
      · exact absurd (hof.symm.trans HOF.out) (by decide)
      · have HE8 := Lib.hid (show Ents w5 w5.heap.size (.slice none 0 0) [] from Rds.nil_ _ _ _)
        clear hof
        replace b1 := b1.trans (b5.mono b1.size)
        replace k6 := k6.ext b5
        have y8 := (Below.refl w5.heap.size w5).alloc (Nat.le_refl _) (.cells #[.int .i64 0, .int .i64 0, .bool false, .slice none 0 0] 24)
        have z8 := b5.trans (y8.mono b5.size)
        have c9 := b1.trans (y8.mono b1.size)
        have q0 := k6.cell 0
        have q1 := k6.cell 1
        have q2 := k6.cell 2
        have q3 := k6.cell 3
        have hk6 := k6.lt
        go_wp2_with fail
        have HSA := Lib.hid (show sameB ⟨0, 0, false, []⟩ ⟨0, 0, false, []⟩ = true by unfold sameB; simp)
        refine (rsameS_any 0 0 0 0 false false _ _ [] [] _ ((HE7.out.below z8).more z8.size) ((HE8.out.below y8).more y8.size)).mono ?_
        rintro r w6 ⟨rfl, b6⟩
        rw [HSA.out]
        have c10 := c9.trans (b6.mono c9.size)
        clear q0 q1 q2 q3 z8 y8 c9 b6 k6 b1 b5 k1 x3
        go_wp2_with fail
        refine (awakeS_any w6 (hH.ext c10)).mono ?_
        rintro r w7 ⟨rfl, b7⟩
        go_wp2
        go_ret
        exact ⟨rfl, c10.trans (b7.mono c10.size)⟩

/-- What the walk gives, for every argument and every world that holds the table. -/
theorem summaryWholes_contract (H : Type) (enc : TypeId × Value → H) (W : World) (base : Nat) (args : Array Value) (ds gs : List (DataW H)) (before : List MemPlace)
    (hval : ∀ (j : Nat) t v, Tryd.f5.params[j]? = some t → args[j]? = some v → Value.okWide Tryd.prog W .any base t v)
    (hW : DataW.Whole enc Tryd.prog Tryd.f5.params.toList Rows.summaryWholesSpec.vars false W args.toList ds gs before) (hL : laidMetH Tryd.prog Rows.summaryWholesRow.laid W) :
    Calls Tryd.prog 5 args W fun e W' => ∃ v, e = .returned v ∧ Rows.summaryWholesSpec.post enc Tryd.prog Tryd.f5 false true false false W args v W' := by
  have hW' := hW
  obtain ⟨p, q, hA0, hV, hps, hfz, hnd⟩ := hW
  have hA : DataW.TrodAll enc Tryd.prog W 0 (fun _ => true) true Tryd.f5.params.toList args.toList ds p := hA0
  rw [Tryd.params5] at hA hval
  obtain ⟨v0, vs0, d0, ds0, p0, q0, hargs, rfl, rfl, h0, r0⟩ := trodAll_cons hA
  obtain ⟨v1, vs1, d1, ds1, p1, q1, rfl, rfl, rfl, h1, r1⟩ := trodAll_cons r0
  obtain ⟨rfl, rfl, rfl⟩ := trodAll_nil r1
  obtain rfl : args = #[v0, v1] := by cases args; simp_all
  obtain ⟨rfl, rfl⟩ := trodVars_none hV
  obtain ⟨s0, n0, e0, vl0, l0, rfl, b0, g0⟩ := part_of_trod (hval 0 24 v0 rfl rfl) h0
  obtain ⟨l1, b1⟩ := bss_of_trod Tryd.underlying39 Tryd.underlying26 Tryd.underlying5 (by kernel_rfl) cellsU8 (hval 1 39 v1 rfl rfl) h1
  clear hA0
  refine (summaryWholes_walk W s0 n0 e0 vl0 v1 l0 l1 b0 b1 (halves_of hL)).mono fun e W' ⟨he, hb⟩ => ?_
  subst he
  exact ⟨_, rfl, law_post laidOut (by rw [Tryd.params5]; decide +kernel) rfl Tryd.underlying4 rfl rfl hW' hb⟩

theorem summaryWholes_met (os : Os) : laidMet Tryd.prog Rows.summaryWholesRow.laid ((laidWorld os).forCall (fun _ _ => 0) ⟨#[], #[.agg #[.int .i64 0, .int .i64 0, .bool false, .slice none 0 0], .slice none 0 0], []⟩).memory :=
  laidMet_of_run' 8 (by kernel_rfl) (by kernel_rfl)
theorem summaryWholes_reads (os : Os) {H : Type} (enc : TypeId × Value → H) : ∃ places, DataW.whole enc Tryd.prog ((laidWorld os).forCall (fun _ _ => 0) ⟨#[], #[.agg #[.int .i64 0, .int .i64 0, .bool false, .slice none 0 0], .slice none 0 0], []⟩).memory Tryd.f5.params.toList Rows.summaryWholesSpec.vars false (#[.agg #[.int .i64 0, .int .i64 0, .bool false, .slice none 0 0], .slice none 0 0] : Array Value).toList 8 = some ([.agg [.lit (.int .i64 0), .lit (.int .i64 0), .lit (.bool false), .nil], .nil], [], places) :=
  ⟨[], by kernel_rfl⟩

set_option maxRecDepth 100000 in
theorem summaryWholes_lifted (os : Os) (started : os.Started) (H : Type) (enc : TypeId × Value → H) (F : Stop.Interp) :
    ReturnsInHanded {} Tryd.checked os 5 .any ((OpenSpec.ofChange Rows.summaryWholesSpec).preRow enc Tryd.prog Tryd.f5 Rows.summaryWholesRow.domain false Rows.summaryWholesRow.laid) (((OpenSpec.ofChange Rows.summaryWholesSpec).at F).post enc Tryd.prog Tryd.f5 false true false false) := by
  obtain ⟨places, hx⟩ := summaryWholes_reads os enc
  refine returnsInHanded_of_row (C := Tryd.checked) (s := OpenSpec.ofChange Rows.summaryWholesSpec) own started (by kernel_rfl) Tryd.func5
    (witness_row_at (enc := enc) (C := Tryd.checked) false (laidWorld os) #[.agg #[.int .i64 0, .int .i64 0, .bool false, .slice none 0 0], .slice none 0 0] rfl (by kernel_rfl) (by kernel_rfl) (by kernel_rfl)
      (OpenSpec.preRow_of_cond 8 hx (by kernel_rfl) (fun k hk => by cases hk) (by kernel_rfl) (summaryWholes_met os))) ?_
  intro W base args ds gs before hval hW _ _ _ hL _ _
  exact summaryWholes_contract H enc W base args ds gs before hval hW hL

theorem summaryWholes_said : Rows.SummaryWholesSaid :=
  OpenClaim.holds_of_cond 5 Tryd.f5 rfl rfl rfl rfl rfl rfl rfl ⟨rfl, rfl, rfl, rfl, rfl⟩ rfl rfl rfl rfl rfl (by kernel_rfl) Tryd.func5 (by kernel_rfl)
    (of_decide_eq_true (by kernel_rfl)) (by unfold Func.isWrapper; first | (rw [if_pos (by decide +kernel)]; kernel_rfl) | (rw [if_neg (by decide +kernel)]; exact ⟨rfl, rfl⟩))
    (fun os started H enc _ F => by rw [OpenClaim.pre_eq_preRow]; exact summaryWholes_lifted os started H enc F)

theorem summaryWholes_plain (f : FuncId) (fn : Func) (hf : Tryd.pinned.checked.prog.funcNamed "haymow/haymowlaw06.SummaryWholes" = some f) (hfn : Tryd.pinned.checked.prog.funcs[f]? = some fn) :
    false = Tryd.pinned.checked.prog.looks [] ∧ ∀ (j : Nat) t, fn.params[j]? = some t → Tryd.pinned.checked.prog.wantsStandIn t = false := by
  obtain rfl : f = 5 := Option.some.inj ((show Tryd.prog.funcNamed "haymow/haymowlaw06.SummaryWholes" = some 5 by kernel_rfl).symm.trans hf) |>.symm
  obtain rfl : fn = Tryd.f5 := (Option.some.inj (Tryd.func5.symm.trans hfn)).symm
  refine ⟨by kernel_rfl, fun j t ht => ?_⟩
  rw [Tryd.params5] at ht
  have hall : ∀ t ∈ (Tryd.f5).params.toList, Tryd.prog.wantsStandIn t = false := by rw [Tryd.params5]; decide +kernel
  exact hall t (by rw [Tryd.params5]; exact Array.mem_toList_iff.2 (Array.mem_of_getElem? ht))

/-- THE CARD. -/
theorem summaryWholes_holds : Rows.SummaryWholesCardSaid :=
  Claim7.holds_tied_plain_at .later [] _ _ _ _ summaryWholes_said (fun _ h => by cases h) (by kernel_rfl) (fun _ h => by cases h) summaryWholes_row_tie rfl ⟨rfl, rfl⟩ (by kernel_rfl) rfl summaryWholes_plain (by kernel_rfl)

end Go.Proofs.YtieajlpkiheebaaDoor
