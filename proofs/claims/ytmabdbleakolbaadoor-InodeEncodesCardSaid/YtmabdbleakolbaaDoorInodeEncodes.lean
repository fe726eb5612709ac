/-
  InodeEncodes: every inode that may be, of every number, has the document's block, and is decoded as it was; of another number it is refused; others have none. For every input.
-/
import Derived.Test.YtmabdbleakolbaaDoorInodeQ
namespace Go.Proofs.YtmabdbleakolbaaDoor
open Go.ChangeShapes Go.WideShapes Go.ChangeAt Go.RowKit

set_option maxRecDepth 100000 in
set_option maxHeartbeats 8000000 in
theorem inodeEncodes_walk (w : World) (i o : Int) (X : Nd.In) (hgd : Nd.Good X) (hH : Halves w) :
    Calls Tryd.prog 3 #[.int .i64 i, .int .i64 o, iagg X] w fun e w' => e = .returned (.bool true) ∧ Below w.heap.size w w' := by
  have HX := Lib.hid hgd.1
  have HGD := Lib.hid hgd
  clear hgd
  unfold iagg
  go_enter Tryd.func3, Tryd.ntmps3
  go_upto_region 1 with (fail)
  have hk := Blk.new w 27 (icells X).toArray
  have hb0 := (Below.refl w.heap.size w).alloc (Nat.le_refl _) (.cells (icells X).toArray 27)
  change Blk _ _ _ (icells X) at hk
  generalize w.alloc (.cells (icells X).toArray 27) = w0 at *
  generalize w.heap.size = g at hk ⊢
  have r0 := hk.range
  go_wp2_with (refine wpList_load_at 27 (.tmp 5) rfl rfl g 0 rfl (icells X) _ r0 Tryd.underlying27 rfl (infoI _ HX.out) ?_)
  clear r0
  by_cases h1 : i < 1
  · have HNO := Lib.hid (show (Nd.inoB i && Nd.mayB X) = false by unfold Nd.inoB; rw [decide_eq_false (by omega)]; rfl)
    refine (encode_no i X _ HX.out HNO.out).mono ?_
    rintro e w1 ⟨rfl, b1⟩
    have k1 := hk.ext b1
    have c1 := hb0.trans (b1.mono hb0.size)
    clear hk b1 hb0
    cases hmb : Nd.mayB X with
    | false =>
      have HM := Lib.hid hmb
      clear hmb
      go_wp2_with fail
      have hG0 : Below w1.heap.size w1 w1.drew := (Below.refl _ _).drew
      refine wp_region_list 5 [(fun y_ _ => y_ = .agg (icells X).toArray),
        (fun y_ _ => y_ = .bool false),
        (fun y_ _ => y_ = .agg (icells X).toArray),
        (fun y_ _ => y_ = .bool false),
        (fun y_ _ => y_ = .bool false)]
        (fun x => Below w1.heap.size w1 x) (by kernel_rfl) rfl (by kernel_rfl) ?_ ?_ ?_ ?_
      · exact hG0
      · exact ⟨stab_eq _, stab_eq _, stab_eq _, stab_eq _, stab_eq _, trivial⟩
      · refine ⟨?_, ?_, ?_, ?_, ?_, trivial⟩
        · intro a x hG hd hs K hK
          have h5 : a.tmps.getD 5 undef = .pointer (some ⟨g, 0, none⟩) := hs 5 (by kernel_rfl)
          clear hd hs
          refine wpOp_plain rfl rfl ?_
          refine wp_load_mid 27 (.tmp 5) rfl g 0 h5 (icells X) _ (k1.ext hG).range Tryd.underlying27 rfl (infoI _ HX.out) ?_
          exact hK _ _ rfl hG (Below.refl _ _)
        · intro a x hG hd hs K hK
          have h19 : a.tmps.getD 19 undef = .agg (icells X).toArray := hd 0 19 (by kernel_rfl)
          clear hd hs
          refine wpOp_plain rfl rfl ?_
          go_simp
          refine (may_any X _ HX.out).mono ?_
          rintro e w' ⟨rfl, hb⟩
          rw [HM.out]
          exact hK _ _ rfl (hG.trans (hb.mono hG.size)) hb
        · intro a x hG hd hs K hK
          have h5 : a.tmps.getD 5 undef = .pointer (some ⟨g, 0, none⟩) := hs 5 (by kernel_rfl)
          clear hd hs
          refine wpOp_plain rfl rfl ?_
          refine wp_load_mid 27 (.tmp 5) rfl g 0 h5 (icells X) _ (k1.ext hG).range Tryd.underlying27 rfl (infoI _ HX.out) ?_
          exact hK _ _ rfl hG (Below.refl _ _)
        · intro a x hG hd hs K hK
          have h21 : a.tmps.getD 21 undef = .agg (icells X).toArray := hd 2 21 (by kernel_rfl)
          clear hd hs
          refine wpOp_plain rfl rfl ?_
          go_simp
          refine (rmay_any X _ HX.out).mono ?_
          rintro e w' ⟨rfl, hb⟩
          rw [HM.out]
          exact hK _ _ rfl (hG.trans (hb.mono hG.size)) hb
        · intro a x hG hd hs K hK
          have h20 : a.tmps.getD 20 undef = .bool false := hd 1 20 (by kernel_rfl)
          have h22 : a.tmps.getD 22 undef = .bool false := hd 3 22 (by kernel_rfl)
          clear hd hs
          refine wpOp_plain rfl rfl ?_
          go_simp
          exact hK _ _ rfl hG (Below.refl _ _)
      · intro x hG
        rintro _ rfl _ rfl _ rfl _ rfl _ rfl
        simp only [Act.put, List.setIfInBounds_toArray, List.set_cons_zero, List.set_cons_succ, REnd]
        try simp only [Exit.then]
        have k2 := k1.ext hG
        have c2 := c1.trans (hG.mono c1.size)
        have r2 := k2.range
        clear k1 c1 hG
        have c3 := c2
        clear r2 k2 c2
        go_wp2_with fail
        refine (awake_any _ (hH.ext c3)).mono ?_
        rintro e w4 ⟨rfl, b4⟩
        go_wp2
        go_ret
        exact ⟨rfl, c3.trans (b4.mono c3.size)⟩
    | true =>
      have HM := Lib.hid hmb
      clear hmb
      go_wp2_with fail
      have hG0 : Below w1.heap.size w1 w1.drew := (Below.refl _ _).drew
      refine wp_region_list 5 [(fun y_ _ => y_ = .agg (icells X).toArray),
        (fun y_ _ => y_ = .bool true),
        (fun y_ _ => y_ = .agg (icells X).toArray),
        (fun y_ _ => y_ = .bool true),
        (fun y_ _ => y_ = .bool false)]
        (fun x => Below w1.heap.size w1 x) (by kernel_rfl) rfl (by kernel_rfl) ?_ ?_ ?_ ?_
      · exact hG0
      · exact ⟨stab_eq _, stab_eq _, stab_eq _, stab_eq _, stab_eq _, trivial⟩
      · refine ⟨?_, ?_, ?_, ?_, ?_, trivial⟩
        · intro a x hG hd hs K hK
          have h5 : a.tmps.getD 5 undef = .pointer (some ⟨g, 0, none⟩) := hs 5 (by kernel_rfl)
          clear hd hs
          refine wpOp_plain rfl rfl ?_
          refine wp_load_mid 27 (.tmp 5) rfl g 0 h5 (icells X) _ (k1.ext hG).range Tryd.underlying27 rfl (infoI _ HX.out) ?_
          exact hK _ _ rfl hG (Below.refl _ _)
        · intro a x hG hd hs K hK
          have h19 : a.tmps.getD 19 undef = .agg (icells X).toArray := hd 0 19 (by kernel_rfl)
          clear hd hs
          refine wpOp_plain rfl rfl ?_
          go_simp
          refine (may_any X _ HX.out).mono ?_
          rintro e w' ⟨rfl, hb⟩
          rw [HM.out]
          exact hK _ _ rfl (hG.trans (hb.mono hG.size)) hb
        · intro a x hG hd hs K hK
          have h5 : a.tmps.getD 5 undef = .pointer (some ⟨g, 0, none⟩) := hs 5 (by kernel_rfl)
          clear hd hs
          refine wpOp_plain rfl rfl ?_
          refine wp_load_mid 27 (.tmp 5) rfl g 0 h5 (icells X) _ (k1.ext hG).range Tryd.underlying27 rfl (infoI _ HX.out) ?_
          exact hK _ _ rfl hG (Below.refl _ _)
        · intro a x hG hd hs K hK
          have h21 : a.tmps.getD 21 undef = .agg (icells X).toArray := hd 2 21 (by kernel_rfl)
          clear hd hs
          refine wpOp_plain rfl rfl ?_
          go_simp
          refine (rmay_any X _ HX.out).mono ?_
          rintro e w' ⟨rfl, hb⟩
          rw [HM.out]
          exact hK _ _ rfl (hG.trans (hb.mono hG.size)) hb
        · intro a x hG hd hs K hK
          have h20 : a.tmps.getD 20 undef = .bool true := hd 1 20 (by kernel_rfl)
          have h22 : a.tmps.getD 22 undef = .bool true := hd 3 22 (by kernel_rfl)
          clear hd hs
          refine wpOp_plain rfl rfl ?_
          go_simp
          exact hK _ _ rfl hG (Below.refl _ _)
      · intro x hG
        rintro _ rfl _ rfl _ rfl _ rfl _ rfl
        simp only [Act.put, List.setIfInBounds_toArray, List.set_cons_zero, List.set_cons_succ, REnd]
        try simp only [Exit.then]
        have k2 := k1.ext hG
        have c2 := c1.trans (hG.mono c1.size)
        have r2 := k2.range
        clear k1 c1 hG
        have c3 := c2
        clear r2 k2 c2
        go_wp2_with fail
        refine (awake_any _ (hH.ext c3)).mono ?_
        rintro e w4 ⟨rfl, b4⟩
        go_wp2
        go_ret
        exact ⟨rfl, c3.trans (b4.mono c3.size)⟩
  by_cases h2 : 39 < i
  · have HNO := Lib.hid (show (Nd.inoB i && Nd.mayB X) = false by unfold Nd.inoB; rw [decide_eq_false (by omega)]; rfl)
    refine (encode_no i X _ HX.out HNO.out).mono ?_
    rintro e w1 ⟨rfl, b1⟩
    have k1 := hk.ext b1
    have c1 := hb0.trans (b1.mono hb0.size)
    clear hk b1 hb0
    cases hmb : Nd.mayB X with
    | false =>
      have HM := Lib.hid hmb
      clear hmb
      go_wp2_with fail
      have hG0 : Below w1.heap.size w1 w1.drew := (Below.refl _ _).drew
      refine wp_region_list 5 [(fun y_ _ => y_ = .agg (icells X).toArray),
        (fun y_ _ => y_ = .bool false),
        (fun y_ _ => y_ = .agg (icells X).toArray),
        (fun y_ _ => y_ = .bool false),
        (fun y_ _ => y_ = .bool false)]
        (fun x => Below w1.heap.size w1 x) (by kernel_rfl) rfl (by kernel_rfl) ?_ ?_ ?_ ?_
      · exact hG0
      · exact ⟨stab_eq _, stab_eq _, stab_eq _, stab_eq _, stab_eq _, trivial⟩
      · refine ⟨?_, ?_, ?_, ?_, ?_, trivial⟩
        · intro a x hG hd hs K hK
          have h5 : a.tmps.getD 5 undef = .pointer (some ⟨g, 0, none⟩) := hs 5 (by kernel_rfl)
          clear hd hs
          refine wpOp_plain rfl rfl ?_
          refine wp_load_mid 27 (.tmp 5) rfl g 0 h5 (icells X) _ (k1.ext hG).range Tryd.underlying27 rfl (infoI _ HX.out) ?_
          exact hK _ _ rfl hG (Below.refl _ _)
        · intro a x hG hd hs K hK
          have h19 : a.tmps.getD 19 undef = .agg (icells X).toArray := hd 0 19 (by kernel_rfl)
          clear hd hs
          refine wpOp_plain rfl rfl ?_
          go_simp
          refine (may_any X _ HX.out).mono ?_
          rintro e w' ⟨rfl, hb⟩
          rw [HM.out]
          exact hK _ _ rfl (hG.trans (hb.mono hG.size)) hb
        · intro a x hG hd hs K hK
          have h5 : a.tmps.getD 5 undef = .pointer (some ⟨g, 0, none⟩) := hs 5 (by kernel_rfl)
          clear hd hs
          refine wpOp_plain rfl rfl ?_
          refine wp_load_mid 27 (.tmp 5) rfl g 0 h5 (icells X) _ (k1.ext hG).range Tryd.underlying27 rfl (infoI _ HX.out) ?_
          exact hK _ _ rfl hG (Below.refl _ _)
        · intro a x hG hd hs K hK
          have h21 : a.tmps.getD 21 undef = .agg (icells X).toArray := hd 2 21 (by kernel_rfl)
          clear hd hs
          refine wpOp_plain rfl rfl ?_
          go_simp
          refine (rmay_any X _ HX.out).mono ?_
          rintro e w' ⟨rfl, hb⟩
          rw [HM.out]
          exact hK _ _ rfl (hG.trans (hb.mono hG.size)) hb
        · intro a x hG hd hs K hK
          have h20 : a.tmps.getD 20 undef = .bool false := hd 1 20 (by kernel_rfl)
          have h22 : a.tmps.getD 22 undef = .bool false := hd 3 22 (by kernel_rfl)
          clear hd hs
          refine wpOp_plain rfl rfl ?_
          go_simp
          exact hK _ _ rfl hG (Below.refl _ _)
      · intro x hG
        rintro _ rfl _ rfl _ rfl _ rfl _ rfl
        simp only [Act.put, List.setIfInBounds_toArray, List.set_cons_zero, List.set_cons_succ, REnd]
        try simp only [Exit.then]
        have k2 := k1.ext hG
        have c2 := c1.trans (hG.mono c1.size)
        have r2 := k2.range
        clear k1 c1 hG
        have c3 := c2
        clear r2 k2 c2
        go_wp2_with fail
        refine (awake_any _ (hH.ext c3)).mono ?_
        rintro e w4 ⟨rfl, b4⟩
        go_wp2
        go_ret
        exact ⟨rfl, c3.trans (b4.mono c3.size)⟩
    | true =>
      have HM := Lib.hid hmb
      clear hmb
      go_wp2_with fail
      have hG0 : Below w1.heap.size w1 w1.drew := (Below.refl _ _).drew
      refine wp_region_list 5 [(fun y_ _ => y_ = .agg (icells X).toArray),
        (fun y_ _ => y_ = .bool true),
        (fun y_ _ => y_ = .agg (icells X).toArray),
        (fun y_ _ => y_ = .bool true),
        (fun y_ _ => y_ = .bool false)]
        (fun x => Below w1.heap.size w1 x) (by kernel_rfl) rfl (by kernel_rfl) ?_ ?_ ?_ ?_
      · exact hG0
      · exact ⟨stab_eq _, stab_eq _, stab_eq _, stab_eq _, stab_eq _, trivial⟩
      · refine ⟨?_, ?_, ?_, ?_, ?_, trivial⟩
        · intro a x hG hd hs K hK
          have h5 : a.tmps.getD 5 undef = .pointer (some ⟨g, 0, none⟩) := hs 5 (by kernel_rfl)
          clear hd hs
          refine wpOp_plain rfl rfl ?_
          refine wp_load_mid 27 (.tmp 5) rfl g 0 h5 (icells X) _ (k1.ext hG).range Tryd.underlying27 rfl (infoI _ HX.out) ?_
          exact hK _ _ rfl hG (Below.refl _ _)
        · intro a x hG hd hs K hK
          have h19 : a.tmps.getD 19 undef = .agg (icells X).toArray := hd 0 19 (by kernel_rfl)
          clear hd hs
          refine wpOp_plain rfl rfl ?_
          go_simp
          refine (may_any X _ HX.out).mono ?_
          rintro e w' ⟨rfl, hb⟩
          rw [HM.out]
          exact hK _ _ rfl (hG.trans (hb.mono hG.size)) hb
        · intro a x hG hd hs K hK
          have h5 : a.tmps.getD 5 undef = .pointer (some ⟨g, 0, none⟩) := hs 5 (by kernel_rfl)
          clear hd hs
          refine wpOp_plain rfl rfl ?_
          refine wp_load_mid 27 (.tmp 5) rfl g 0 h5 (icells X) _ (k1.ext hG).range Tryd.underlying27 rfl (infoI _ HX.out) ?_
          exact hK _ _ rfl hG (Below.refl _ _)
        · intro a x hG hd hs K hK
          have h21 : a.tmps.getD 21 undef = .agg (icells X).toArray := hd 2 21 (by kernel_rfl)
          clear hd hs
          refine wpOp_plain rfl rfl ?_
          go_simp
          refine (rmay_any X _ HX.out).mono ?_
          rintro e w' ⟨rfl, hb⟩
          rw [HM.out]
          exact hK _ _ rfl (hG.trans (hb.mono hG.size)) hb
        · intro a x hG hd hs K hK
          have h20 : a.tmps.getD 20 undef = .bool true := hd 1 20 (by kernel_rfl)
          have h22 : a.tmps.getD 22 undef = .bool true := hd 3 22 (by kernel_rfl)
          clear hd hs
          refine wpOp_plain rfl rfl ?_
          go_simp
          exact hK _ _ rfl hG (Below.refl _ _)
      · intro x hG
        rintro _ rfl _ rfl _ rfl _ rfl _ rfl
        simp only [Act.put, List.setIfInBounds_toArray, List.set_cons_zero, List.set_cons_succ, REnd]
        try simp only [Exit.then]
        have k2 := k1.ext hG
        have c2 := c1.trans (hG.mono c1.size)
        have r2 := k2.range
        clear k1 c1 hG
        have c3 := c2
        clear r2 k2 c2
        go_wp2_with fail
        refine (awake_any _ (hH.ext c3)).mono ?_
        rintro e w4 ⟨rfl, b4⟩
        go_wp2
        go_ret
        exact ⟨rfl, c3.trans (b4.mono c3.size)⟩
  have d1 : decide (i < 1) = false := decide_eq_false h1
  have d2 : decide (39 < i) = false := decide_eq_false h2
  cases hm : Nd.mayB X with
  | false =>
    have HNO := Lib.hid (show (Nd.inoB i && Nd.mayB X) = false by rw [hm, Bool.and_false])
    have HMF := Lib.hid hm
    clear hm
    refine (encode_no i X _ HX.out HNO.out).mono ?_
    rintro e w1 ⟨rfl, b1⟩
    have k1 := hk.ext b1
    have c1 := hb0.trans (b1.mono hb0.size)
    clear hk b1 hb0
    have HM := HMF
    go_wp2_with fail
    have hG0 : Below w1.heap.size w1 w1.drew := (Below.refl _ _).drew
    refine wp_region_list 5 [(fun y_ _ => y_ = .agg (icells X).toArray),
      (fun y_ _ => y_ = .bool false),
      (fun y_ _ => y_ = .agg (icells X).toArray),
      (fun y_ _ => y_ = .bool false),
      (fun y_ _ => y_ = .bool false)]
      (fun x => Below w1.heap.size w1 x) (by kernel_rfl) rfl (by kernel_rfl) ?_ ?_ ?_ ?_
    · exact hG0
    · exact ⟨stab_eq _, stab_eq _, stab_eq _, stab_eq _, stab_eq _, trivial⟩
    · refine ⟨?_, ?_, ?_, ?_, ?_, trivial⟩
      · intro a x hG hd hs K hK
        have h5 : a.tmps.getD 5 undef = .pointer (some ⟨g, 0, none⟩) := hs 5 (by kernel_rfl)
        clear hd hs
        refine wpOp_plain rfl rfl ?_
        refine wp_load_mid 27 (.tmp 5) rfl g 0 h5 (icells X) _ (k1.ext hG).range Tryd.underlying27 rfl (infoI _ HX.out) ?_
        exact hK _ _ rfl hG (Below.refl _ _)
      · intro a x hG hd hs K hK
        have h19 : a.tmps.getD 19 undef = .agg (icells X).toArray := hd 0 19 (by kernel_rfl)
        clear hd hs
        refine wpOp_plain rfl rfl ?_
        go_simp
        refine (may_any X _ HX.out).mono ?_
        rintro e w' ⟨rfl, hb⟩
        rw [HM.out]
        exact hK _ _ rfl (hG.trans (hb.mono hG.size)) hb
      · intro a x hG hd hs K hK
        have h5 : a.tmps.getD 5 undef = .pointer (some ⟨g, 0, none⟩) := hs 5 (by kernel_rfl)
        clear hd hs
        refine wpOp_plain rfl rfl ?_
        refine wp_load_mid 27 (.tmp 5) rfl g 0 h5 (icells X) _ (k1.ext hG).range Tryd.underlying27 rfl (infoI _ HX.out) ?_
        exact hK _ _ rfl hG (Below.refl _ _)
      · intro a x hG hd hs K hK
        have h21 : a.tmps.getD 21 undef = .agg (icells X).toArray := hd 2 21 (by kernel_rfl)
        clear hd hs
        refine wpOp_plain rfl rfl ?_
        go_simp
        refine (rmay_any X _ HX.out).mono ?_
        rintro e w' ⟨rfl, hb⟩
        rw [HM.out]
        exact hK _ _ rfl (hG.trans (hb.mono hG.size)) hb
      · intro a x hG hd hs K hK
        have h20 : a.tmps.getD 20 undef = .bool false := hd 1 20 (by kernel_rfl)
        have h22 : a.tmps.getD 22 undef = .bool false := hd 3 22 (by kernel_rfl)
        clear hd hs
        refine wpOp_plain rfl rfl ?_
        go_simp
        exact hK _ _ rfl hG (Below.refl _ _)
    · intro x hG
      rintro _ rfl _ rfl _ rfl _ rfl _ rfl
      simp only [Act.put, List.setIfInBounds_toArray, List.set_cons_zero, List.set_cons_succ, REnd]
      try simp only [Exit.then]
      have k2 := k1.ext hG
      have c2 := c1.trans (hG.mono c1.size)
      have r2 := k2.range
      clear k1 c1 hG
      go_wp2_with (refine wpList_load_at 27 (.tmp 5) rfl rfl g 0 rfl (icells X) _ r2 Tryd.underlying27 rfl (infoI _ HX.out) ?_)
      refine (rmay_any X _ HX.out).mono ?_
      rintro e w3 ⟨rfl, b3⟩
      rw [HM.out]
      have c3 := c2.trans (b3.mono c2.size)
      clear r2 k2 c2
      go_wp2_with fail
      refine (awake_any _ (hH.ext c3)).mono ?_
      rintro e w4 ⟨rfl, b4⟩
      go_wp2
      go_ret
      exact ⟨rfl, c3.trans (b4.mono c3.size)⟩
  | true =>
    obtain ⟨n, rfl⟩ := Int.eq_ofNat_of_zero_le (show 0 ≤ i by omega)
    have HI := Lib.hid (show Nd.inoB (n : Int) = true by unfold Nd.inoB; rw [decide_eq_true_iff]; omega)
    have HMT := Lib.hid hm
    have HBK := Lib.hid (Nd.in_back n X HI.out hm HGD.out)
    clear hm
    refine (encode_yes n X _ HGD.out HI.out HMT.out (hH.ext hb0)).mono ?_
    rintro e w1 ⟨u, rfl, hbs, b1⟩
    have k1 := hk.ext b1
    have c1 := hb0.trans (b1.mono hb0.size)
    have HB1 := Lib.hid hbs
    have HM := HMT
    clear hk b1 hb0 hbs
    go_wp2_with fail
    have hG0 : Below w1.heap.size w1 w1.drew := (Below.refl _ _).drew
    refine wp_region_list 5 [(fun y_ _ => y_ = .agg (icells X).toArray),
      (fun y_ _ => y_ = .bool true),
      (fun y_ _ => y_ = .agg (icells X).toArray),
      (fun y_ _ => y_ = .bool true),
      (fun y_ _ => y_ = .bool false)]
      (fun x => Below w1.heap.size w1 x) (by kernel_rfl) rfl (by kernel_rfl) ?_ ?_ ?_ ?_
    · exact hG0
    · exact ⟨stab_eq _, stab_eq _, stab_eq _, stab_eq _, stab_eq _, trivial⟩
    · refine ⟨?_, ?_, ?_, ?_, ?_, trivial⟩
      · intro a x hG hd hs K hK
        have h5 : a.tmps.getD 5 undef = .pointer (some ⟨g, 0, none⟩) := hs 5 (by kernel_rfl)
        clear hd hs
        refine wpOp_plain rfl rfl ?_
        refine wp_load_mid 27 (.tmp 5) rfl g 0 h5 (icells X) _ (k1.ext hG).range Tryd.underlying27 rfl (infoI _ HX.out) ?_
        exact hK _ _ rfl hG (Below.refl _ _)
      · intro a x hG hd hs K hK
        have h19 : a.tmps.getD 19 undef = .agg (icells X).toArray := hd 0 19 (by kernel_rfl)
        clear hd hs
        refine wpOp_plain rfl rfl ?_
        go_simp
        refine (may_any X _ HX.out).mono ?_
        rintro e w' ⟨rfl, hb⟩
        rw [HM.out]
        exact hK _ _ rfl (hG.trans (hb.mono hG.size)) hb
      · intro a x hG hd hs K hK
        have h5 : a.tmps.getD 5 undef = .pointer (some ⟨g, 0, none⟩) := hs 5 (by kernel_rfl)
        clear hd hs
        refine wpOp_plain rfl rfl ?_
        refine wp_load_mid 27 (.tmp 5) rfl g 0 h5 (icells X) _ (k1.ext hG).range Tryd.underlying27 rfl (infoI _ HX.out) ?_
        exact hK _ _ rfl hG (Below.refl _ _)
      · intro a x hG hd hs K hK
        have h21 : a.tmps.getD 21 undef = .agg (icells X).toArray := hd 2 21 (by kernel_rfl)
        clear hd hs
        refine wpOp_plain rfl rfl ?_
        go_simp
        refine (rmay_any X _ HX.out).mono ?_
        rintro e w' ⟨rfl, hb⟩
        rw [HM.out]
        exact hK _ _ rfl (hG.trans (hb.mono hG.size)) hb
      · intro a x hG hd hs K hK
        have h20 : a.tmps.getD 20 undef = .bool true := hd 1 20 (by kernel_rfl)
        have h22 : a.tmps.getD 22 undef = .bool true := hd 3 22 (by kernel_rfl)
        clear hd hs
        refine wpOp_plain rfl rfl ?_
        go_simp
        exact hK _ _ rfl hG (Below.refl _ _)
    · intro x hG
      rintro _ rfl _ rfl _ rfl _ rfl _ rfl
      simp only [Act.put, List.setIfInBounds_toArray, List.set_cons_zero, List.set_cons_succ, REnd]
      try simp only [Exit.then]
      have k2 := k1.ext hG
      have c2 := c1.trans (hG.mono c1.size)
      have r2 := k2.range
      have HB2 := Lib.hid ((HB1.out.ext (Nat.le_refl _) hG).more hG.size)
      obtain ⟨w2, rfl⟩ : ∃ w2, w2 = x := ⟨x, rfl⟩
      clear k1 c1 hG HB1
      go_wp2_with (refine wpList_load_at 27 (.tmp 5) rfl rfl g 0 rfl (icells X) _ r2 Tryd.underlying27 rfl (infoI _ HX.out) ?_)
      refine (rmay_any X _ HX.out).mono ?_
      rintro e w3 ⟨rfl, b3⟩
      rw [HM.out]
      have k3 := k2.ext b3
      have c3 := c2.trans (b3.mono c2.size)
      have HB3 := Lib.hid ((HB2.out.ext (Nat.le_refl _) b3).more b3.size)
      clear r2 k2 c2 b3 HB2
      go_wp2_with fail
      refine (decode_any n w3 _ _ (hH.ext c3) HB3.out).mono ?_
      rintro e w4 ⟨rfl, b4⟩
      rw [HBK.out.2.1, if_pos rfl, HBK.out.1]
      unfold iagg
      have k4 := k3.ext b4
      have c4 := c3.trans (b4.mono c3.size)
      have HB4 := Lib.hid ((HB3.out.ext (Nat.le_refl _) b4).more b4.size)
      clear k3 c3 b4 HB3
      go_wp2_with (with_reducible refine wpList_store_new rfl 27 (.tmp 9) (.tmp 49) rfl (icells X) rfl rfl ?_ rfl (infoI _ HX.out) icells_one ?_)
      · rw [icells_len _ HX.out]; exact Nat.le_refl 23
      generalize hW : (w4.alloc (.cells _ 27)).setCells w4.heap.size 0 _ = w5
      have j5 : Blk w5 w4.heap.size 27 (icells X) := by rw [← hW]; exact Blk.var rfl HX.out
      have b5 : Below w4.heap.size w4 w5 := by rw [← hW]; exact below_var
      have k5 := k4.ext b5
      have c5 := c4.trans (b5.mono c4.size)
      have HB5 := Lib.hid ((HB4.out.ext (Nat.le_refl _) b5).more b5.size)
      clear hW b5 c4 k4 HB4
      generalize w4.heap.size = g5 at *
      refine (decode_any o w5 _ _ (hH.ext c5) HB5.out).mono ?_
      rintro e w6 ⟨rfl, b6⟩
      have hzo : ∃ (Z : Nd.In) (E : Nat), Z = (if Nd.dErr o (Nd.inE n X) = 0 then Nd.inOf (Nd.inE n X) else Nd.In.zero) ∧ E = Nd.dErr o (Nd.inE n X) := ⟨_, _, rfl, rfl⟩
      obtain ⟨Z, E, hZ, hE⟩ := hzo
      rw [← hZ, ← hE]
      have HZL := Lib.hid (show Z.ps.length = 9 by rw [hZ]; exact inOr_len _ _)
      have HZ := Lib.hid hZ
      have HE := Lib.hid hE
      clear hZ hE
      unfold iagg
      have k6 := k5.ext b6
      have j6 := j5.ext b6
      have c6 := c5.trans (b6.mono c5.size)
      have HB6 := Lib.hid ((HB5.out.ext (Nat.le_refl _) b6).more b6.size)
      clear k5 j5 c5 b6 HB5
      go_wp2_with (with_reducible refine wpList_store_new rfl 27 (.tmp 11) (.tmp 55) rfl (icells Z) rfl rfl ?_ rfl (infoI _ HZL.out) icells_one ?_)
      · rw [icells_len _ HZL.out]; exact Nat.le_refl 23
      generalize hW : (w6.alloc (.cells _ 27)).setCells w6.heap.size 0 _ = w7
      have i7 : Blk w7 w6.heap.size 27 (icells Z) := by rw [← hW]; exact Blk.var rfl HZL.out
      have b7 : Below w6.heap.size w6 w7 := by rw [← hW]; exact below_var
      have k7 := k6.ext b7
      have j7 := j6.ext b7
      have c7 := c6.trans (b7.mono c6.size)
      have HB7 := Lib.hid ((HB6.out.ext (Nat.le_refl _) b7).more b7.size)
      clear hW b7 c6 k6 j6 HB6
      generalize w6.heap.size = g7 at *
      have hG0 : Below w7.heap.size w7 w7.drew := (Below.refl _ _).drew
      obtain ⟨A, c, rfl, _, _, _⟩ := HB7.out.openD
      refine wp_region_list 19 [(fun y_ _ => y_ = .slice A (Nd.inE n X).length c),
        (fun y_ _ => y_ = .string ⟨(Nd.inE n X).toArray⟩),
        (fun y_ _ => y_ = .int .i64 (n : Int)),
        (fun y_ _ => y_ = .agg (icells X).toArray),
        (fun y_ _ => y_ = .string ⟨(Nd.inE n X).toArray⟩),
        (fun y_ _ => y_ = .bool false),
        (fun y_ _ => y_ = .bool false),
        (fun y_ _ => y_ = .int .i64 0),
        (fun y_ _ => y_ = .bool false),
        (fun y_ _ => y_ = .bool false),
        (fun y_ _ => y_ = .bool false),
        (fun y_ _ => y_ = .agg (icells X).toArray),
        (fun y_ _ => y_ = .agg (icells X).toArray),
        (fun y_ _ => y_ = .bool false),
        (fun y_ _ => y_ = .bool false),
        (fun y_ _ => y_ = .bool false),
        (fun y_ _ => y_ = .int .i64 0),
        (fun y_ _ => y_ = .bool false),
        (fun y_ _ => y_ = .bool false)]
        (fun x => Below w7.heap.size w7 x) (by kernel_rfl) rfl (by kernel_rfl) ?_ ?_ ?_ ?_
      · exact hG0
      · exact ⟨stab_eq _, stab_eq _, stab_eq _, stab_eq _, stab_eq _, stab_eq _, stab_eq _, stab_eq _, stab_eq _, stab_eq _, stab_eq _, stab_eq _, stab_eq _, stab_eq _, stab_eq _, stab_eq _, stab_eq _, stab_eq _, stab_eq _, trivial⟩
      · refine ⟨?_, ?_, ?_, ?_, ?_, ?_, ?_, ?_, ?_, ?_, ?_, ?_, ?_, ?_, ?_, ?_, ?_, ?_, ?_, trivial⟩
        · intro a x hG hd hs K hK
          have h7 : a.tmps.getD 7 undef = .slice A (Nd.inE n X).length c := hs 7 (by kernel_rfl)
          clear hd hs
          refine wpOp_plain rfl rfl ?_
          go_simp
          exact hK _ _ rfl hG (Below.refl _ _)
        · intro a x hG hd hs K hK
          have h57 : a.tmps.getD 57 undef = .slice A (Nd.inE n X).length c := hd 0 57 (by kernel_rfl)
          clear hd hs
          refine wpOp_plain rfl rfl ?_
          have hst := run_string_of (P := Tryd.prog) (HB7.out.ext (Nat.le_refl _) hG) 28 9 5 Tryd.underlying28 Tryd.underlying5 Tryd.underlying9
          go_simp
          exact hK _ _ rfl hG (Below.refl _ _)
        · intro a x hG hd hs K hK
          have h0 : a.tmps.getD 0 undef = .int .i64 (n : Int) := hs 0 (by kernel_rfl)
          clear hd hs
          refine wpOp_plain rfl rfl ?_
          go_simp
          exact hK _ _ rfl hG (Below.refl _ _)
        · intro a x hG hd hs K hK
          have h5 : a.tmps.getD 5 undef = .pointer (some ⟨g, 0, none⟩) := hs 5 (by kernel_rfl)
          clear hd hs
          refine wpOp_plain rfl rfl ?_
          refine wp_load_mid 27 (.tmp 5) rfl g 0 h5 (icells X) _ (k7.ext hG).range Tryd.underlying27 rfl (infoI _ HX.out) ?_
          exact hK _ _ rfl hG (Below.refl _ _)
        · intro a x hG hd hs K hK
          have h59 : a.tmps.getD 59 undef = .int .i64 (n : Int) := hd 2 59 (by kernel_rfl)
          have h60 : a.tmps.getD 60 undef = .agg (icells X).toArray := hd 3 60 (by kernel_rfl)
          clear hd hs
          refine wpOp_plain rfl rfl ?_
          go_simp
          refine (rencode_any n X _ HGD.out HI.out HM.out).mono ?_
          rintro e w' ⟨rfl, hb⟩
          exact hK _ _ rfl (hG.trans (hb.mono hG.size)) hb
        · intro a x hG hd hs K hK
          have h58 : a.tmps.getD 58 undef = .string ⟨(Nd.inE n X).toArray⟩ := hd 1 58 (by kernel_rfl)
          have h61 : a.tmps.getD 61 undef = .string ⟨(Nd.inE n X).toArray⟩ := hd 4 61 (by kernel_rfl)
          clear hd hs
          refine wpOp_plain rfl rfl ?_
          go_simp
          exact hK _ _ rfl hG (Below.refl _ _)
        · intro a x hG hd hs K hK
          have h62 : a.tmps.getD 62 undef = .bool false := hd 5 62 (by kernel_rfl)
          clear hd hs
          refine wpOp_plain rfl rfl ?_
          go_simp
          exact hK _ _ rfl hG (Below.refl _ _)
        · intro a x hG hd hs K hK
          have h8 : a.tmps.getD 8 undef = .int .i64 0 := hs 8 (by kernel_rfl)
          have h63 : a.tmps.getD 63 undef = .bool false := hd 6 63 (by kernel_rfl)
          clear hd hs
          refine wpOp_yes rfl rfl rfl h63 ?_
          go_simp
          exact hK _ _ rfl hG (Below.refl _ _)
        · intro a x hG hd hs K hK
          have h64 : a.tmps.getD 64 undef = .int .i64 0 := hd 7 64 (by kernel_rfl)
          have h63 : a.tmps.getD 63 undef = .bool false := hd 6 63 (by kernel_rfl)
          clear hd hs
          refine wpOp_yes rfl rfl rfl h63 ?_
          go_simp
          exact hK _ _ rfl hG (Below.refl _ _)
        · intro a x hG hd hs K hK
          have h63 : a.tmps.getD 63 undef = .bool false := hd 6 63 (by kernel_rfl)
          have h65 : a.tmps.getD 65 undef = .bool false := hd 8 65 (by kernel_rfl)
          clear hd hs
          refine wpOp_plain rfl rfl ?_
          go_simp
          exact hK _ _ rfl hG (Below.refl _ _)
        · intro a x hG hd hs K hK
          have h66 : a.tmps.getD 66 undef = .bool false := hd 9 66 (by kernel_rfl)
          clear hd hs
          refine wpOp_plain rfl rfl ?_
          go_simp
          exact hK _ _ rfl hG (Below.refl _ _)
        · intro a x hG hd hs K hK
          have h9 : a.tmps.getD 9 undef = .pointer (some ⟨g5, 0, none⟩) := hs 9 (by kernel_rfl)
          have h67 : a.tmps.getD 67 undef = .bool false := hd 10 67 (by kernel_rfl)
          clear hd hs
          refine wpOp_yes rfl rfl rfl h67 ?_
          refine wp_load_mid 27 (.tmp 9) rfl g5 0 h9 (icells X) _ (j7.ext hG).range Tryd.underlying27 rfl (infoI _ HX.out) ?_
          exact hK _ _ rfl hG (Below.refl _ _)
        · intro a x hG hd hs K hK
          have h5 : a.tmps.getD 5 undef = .pointer (some ⟨g, 0, none⟩) := hs 5 (by kernel_rfl)
          have h67 : a.tmps.getD 67 undef = .bool false := hd 10 67 (by kernel_rfl)
          clear hd hs
          refine wpOp_yes rfl rfl rfl h67 ?_
          refine wp_load_mid 27 (.tmp 5) rfl g 0 h5 (icells X) _ (k7.ext hG).range Tryd.underlying27 rfl (infoI _ HX.out) ?_
          exact hK _ _ rfl hG (Below.refl _ _)
        · intro a x hG hd hs K hK
          have h68 : a.tmps.getD 68 undef = .agg (icells X).toArray := hd 11 68 (by kernel_rfl)
          have h69 : a.tmps.getD 69 undef = .agg (icells X).toArray := hd 12 69 (by kernel_rfl)
          have h67 : a.tmps.getD 67 undef = .bool false := hd 10 67 (by kernel_rfl)
          clear hd hs
          refine wpOp_yes rfl rfl rfl h67 ?_
          refine wp_binop .neq 27 27 (.tmp 68) (.tmp 69) rfl h68 h69 eqGuardI (run_eql_in X X HX.out HX.out true (by simp) _).2 ?_
          exact hK _ _ rfl hG (Below.refl _ _)
        · intro a x hG hd hs K hK
          have h67 : a.tmps.getD 67 undef = .bool false := hd 10 67 (by kernel_rfl)
          have h70 : a.tmps.getD 70 undef = .bool false := hd 13 70 (by kernel_rfl)
          clear hd hs
          refine wpOp_plain rfl rfl ?_
          go_simp
          exact hK _ _ rfl hG (Below.refl _ _)
        · intro a x hG hd hs K hK
          have h71 : a.tmps.getD 71 undef = .bool false := hd 14 71 (by kernel_rfl)
          clear hd hs
          refine wpOp_plain rfl rfl ?_
          go_simp
          exact hK _ _ rfl hG (Below.refl _ _)
        · intro a x hG hd hs K hK
          have h10 : a.tmps.getD 10 undef = .int .i64 0 := hs 10 (by kernel_rfl)
          have h72 : a.tmps.getD 72 undef = .bool false := hd 15 72 (by kernel_rfl)
          clear hd hs
          refine wpOp_yes rfl rfl rfl h72 ?_
          go_simp
          exact hK _ _ rfl hG (Below.refl _ _)
        · intro a x hG hd hs K hK
          have h73 : a.tmps.getD 73 undef = .int .i64 0 := hd 16 73 (by kernel_rfl)
          have h72 : a.tmps.getD 72 undef = .bool false := hd 15 72 (by kernel_rfl)
          clear hd hs
          refine wpOp_yes rfl rfl rfl h72 ?_
          go_simp
          exact hK _ _ rfl hG (Below.refl _ _)
        · intro a x hG hd hs K hK
          have h72 : a.tmps.getD 72 undef = .bool false := hd 15 72 (by kernel_rfl)
          have h74 : a.tmps.getD 74 undef = .bool false := hd 17 74 (by kernel_rfl)
          clear hd hs
          refine wpOp_plain rfl rfl ?_
          go_simp
          exact hK _ _ rfl hG (Below.refl _ _)
      · intro x hG
        rintro _ rfl _ rfl _ rfl _ rfl _ rfl _ rfl _ rfl _ rfl _ rfl _ rfl _ rfl _ rfl _ rfl _ rfl _ rfl _ rfl _ rfl _ rfl _ rfl
        simp only [Act.put, List.setIfInBounds_toArray, List.set_cons_zero, List.set_cons_succ, REnd]
        try simp only [Exit.then]
        have k8 := k7.ext hG
        have i8 := i7.ext hG
        have c8 := c7.trans (hG.mono c7.size)
        have r1 := k8.range
        have r2 := i8.range
        clear k7 j7 i7 c7 hG HB7
        by_cases ho : o = (n : Int)
        · have ho' : (o == (n : Int)) = true := by rw [beq_iff_eq]; exact ho
          have HZX := Lib.hid (show Z = X by rw [HZ.out, ho, HBK.out.2.1, if_pos rfl, HBK.out.1])
          clear ho
          go_wp2_with (first | refine wpList_load_at 27 (.tmp 11) rfl rfl g7 0 rfl (icells Z) _ r2 Tryd.underlying27 rfl (infoI _ HZL.out) ?_ | refine wpList_load_at 27 (.tmp 5) rfl rfl g 0 rfl (icells X) _ r1 Tryd.underlying27 rfl (infoI _ HX.out) ?_ | refine wpList_binop .eql 27 27 (.tmp 79) (.tmp 80) rfl rfl rfl rfl eqGuardI (run_eql_in Z X HZL.out HX.out true (by rw [HZX.out]; simp) _).1 ?_)
          refine (awake_any _ (hH.ext c8)).mono ?_
          rintro e w9 ⟨rfl, b9⟩
          go_wp2
          go_ret
          exact ⟨rfl, c8.trans (b9.mono c8.size)⟩
        · have ho' : (o == (n : Int)) = false := by rw [beq_eq_false_iff_ne]; exact ho
          have hE0 := HBK.out.2.2 o ho
          rw [← HE.out] at hE0
          have hE' : ((E : Int) != 0) = true := by rw [bne_iff_ne]; omega
          have HZX := Lib.hid (show Z = Nd.In.zero by rw [HZ.out, if_neg (by rw [← HE.out]; exact hE0)])
          clear ho hE0
          go_wp2_with (first | refine wpList_load_at 27 (.tmp 11) rfl rfl g7 0 rfl (icells Z) _ r2 Tryd.underlying27 rfl (infoI _ HZL.out) ?_ | refine wpList_binop .eql 27 27 (.tmp 85) (.tmp 86) rfl rfl rfl rfl eqGuardI (run_eql_in Z Nd.In.zero HZL.out rfl true (by rw [HZX.out]; simp) _).1 ?_)
          refine (awake_any _ (hH.ext c8)).mono ?_
          rintro e w9 ⟨rfl, b9⟩
          go_wp2
          go_ret
          exact ⟨rfl, c8.trans (b9.mono c8.size)⟩

/-- What the walk gives, for every argument and every world that holds the table. -/
theorem inodeEncodes_contract (H : Type) (enc : TypeId × Value → H) (W : World) (base : Nat) (args : Array Value) (ds gs : List (DataW H)) (before : List MemPlace)
    (hval : ∀ (j : Nat) t v, Tryd.f3.params[j]? = some t → args[j]? = some v → Value.okWide Tryd.prog W .any base t v)
    (hW : DataW.Whole enc Tryd.prog Tryd.f3.params.toList Rows.inodeEncodesSpec.vars false W args.toList ds gs before) (hL : laidMetH Tryd.prog Rows.inodeEncodesRow.laid W) :
    Calls Tryd.prog 3 args W fun e W' => ∃ v, e = .returned v ∧ Rows.inodeEncodesSpec.post enc Tryd.prog Tryd.f3 false true false false W args v W' := by
  have hW' := hW
  obtain ⟨p, q, hA0, hV, hps, hfz, hnd⟩ := hW
  have hA : DataW.TrodAll enc Tryd.prog W 0 (fun _ => true) true Tryd.f3.params.toList args.toList ds p := hA0
  rw [Tryd.params3] at hA hval
  obtain ⟨v0, vs0, d0, ds0, p0, q0, hargs, rfl, rfl, h0, r0⟩ := trodAll_cons hA
  obtain ⟨v1, vs1, d1, ds1, p1, q1, rfl, rfl, rfl, h1, r1⟩ := trodAll_cons r0
  obtain ⟨v2, vs2, d2, ds2, p2, q2, rfl, rfl, rfl, h2, r2⟩ := trodAll_cons r1
  obtain ⟨rfl, rfl, rfl⟩ := trodAll_nil r2
  obtain rfl : args = #[v0, v1, v2] := by cases args; simp_all
  obtain ⟨rfl, rfl⟩ := trodVars_none hV
  obtain ⟨z0, rfl, rfl, rfl, wf0⟩ := open_int Tryd.underlying3 (hval 0 3 v0 rfl rfl) h0
  obtain ⟨z1, rfl, rfl, rfl, wf1⟩ := open_int Tryd.underlying3 (hval 1 3 v1 rfl rfl) h1
  obtain ⟨zs2, hzl2, rfl, wfz2⟩ := ints_of_agg 4 ink (by kernel_rfl) (okWide_struct Tryd.underlying27 (hval 2 27 v2 rfl rfl)) (by kernel_rfl) h2
  obtain ⟨X2, g2, e2⟩ := in_of_ints zs2 hzl2 wfz2
  rw [e2] at hW' ⊢
  clear hA0
  refine (inodeEncodes_walk W z0 z1 X2 g2 (halves_of hL)).mono fun e W' ⟨he, hb⟩ => ?_
  subst he
  exact ⟨_, rfl, law_post laidOut (by rw [Tryd.params3]; decide +kernel) rfl Tryd.underlying4 rfl rfl hW' hb⟩

theorem inodeEncodes_met (os : Os) : laidMet Tryd.prog Rows.inodeEncodesRow.laid ((laidWorld os).forCall (fun _ _ => 0) ⟨#[], #[.int .i64 0, .int .i64 0, .agg #[.int .i64 0, .int .i64 0, .int .i64 0, .int .i64 0, .int .i64 0, .int .i64 0, .int .u32 0, .int .i64 0, .int .u32 0, .int .i64 0, .int .u32 0, .int .i64 0, .int .u32 0, .int .i64 0, .int .u32 0, .int .i64 0, .int .u32 0, .int .i64 0, .int .u32 0, .int .i64 0, .int .u32 0, .int .i64 0, .int .u32 0]], []⟩).memory :=
  laidMet_of_run' 8 (by kernel_rfl) (by kernel_rfl)
theorem inodeEncodes_reads (os : Os) {H : Type} (enc : TypeId × Value → H) : ∃ places, DataW.whole enc Tryd.prog ((laidWorld os).forCall (fun _ _ => 0) ⟨#[], #[.int .i64 0, .int .i64 0, .agg #[.int .i64 0, .int .i64 0, .int .i64 0, .int .i64 0, .int .i64 0, .int .i64 0, .int .u32 0, .int .i64 0, .int .u32 0, .int .i64 0, .int .u32 0, .int .i64 0, .int .u32 0, .int .i64 0, .int .u32 0, .int .i64 0, .int .u32 0, .int .i64 0, .int .u32 0, .int .i64 0, .int .u32 0, .int .i64 0, .int .u32 0]], []⟩).memory Tryd.f3.params.toList Rows.inodeEncodesSpec.vars false (#[.int .i64 0, .int .i64 0, .agg #[.int .i64 0, .int .i64 0, .int .i64 0, .int .i64 0, .int .i64 0, .int .i64 0, .int .u32 0, .int .i64 0, .int .u32 0, .int .i64 0, .int .u32 0, .int .i64 0, .int .u32 0, .int .i64 0, .int .u32 0, .int .i64 0, .int .u32 0, .int .i64 0, .int .u32 0, .int .i64 0, .int .u32 0, .int .i64 0, .int .u32 0]] : Array Value).toList 8 = some ([.lit (.int .i64 0), .lit (.int .i64 0), .agg [.lit (.int .i64 0), .lit (.int .i64 0), .lit (.int .i64 0), .lit (.int .i64 0), .lit (.int .i64 0), .agg [.agg [.lit (.int .i64 0), .lit (.int .u32 0)], .agg [.lit (.int .i64 0), .lit (.int .u32 0)], .agg [.lit (.int .i64 0), .lit (.int .u32 0)], .agg [.lit (.int .i64 0), .lit (.int .u32 0)], .agg [.lit (.int .i64 0), .lit (.int .u32 0)], .agg [.lit (.int .i64 0), .lit (.int .u32 0)], .agg [.lit (.int .i64 0), .lit (.int .u32 0)], .agg [.lit (.int .i64 0), .lit (.int .u32 0)], .agg [.lit (.int .i64 0), .lit (.int .u32 0)]]]], [], places) :=
  ⟨[], by kernel_rfl⟩

set_option maxRecDepth 100000 in
theorem inodeEncodes_lifted (os : Os) (started : os.Started) (H : Type) (enc : TypeId × Value → H) (F : Stop.Interp) :
    ReturnsInHanded {} Tryd.checked os 3 .any ((OpenSpec.ofChange Rows.inodeEncodesSpec).preRow enc Tryd.prog Tryd.f3 Rows.inodeEncodesRow.domain false Rows.inodeEncodesRow.laid) (((OpenSpec.ofChange Rows.inodeEncodesSpec).at F).post enc Tryd.prog Tryd.f3 false true false false) := by
  obtain ⟨places, hx⟩ := inodeEncodes_reads os enc
  refine returnsInHanded_of_row (C := Tryd.checked) (s := OpenSpec.ofChange Rows.inodeEncodesSpec) own started (by kernel_rfl) Tryd.func3
    (witness_row_at (enc := enc) (C := Tryd.checked) false (laidWorld os) #[.int .i64 0, .int .i64 0, .agg #[.int .i64 0, .int .i64 0, .int .i64 0, .int .i64 0, .int .i64 0, .int .i64 0, .int .u32 0, .int .i64 0, .int .u32 0, .int .i64 0, .int .u32 0, .int .i64 0, .int .u32 0, .int .i64 0, .int .u32 0, .int .i64 0, .int .u32 0, .int .i64 0, .int .u32 0, .int .i64 0, .int .u32 0, .int .i64 0, .int .u32 0]] rfl (by kernel_rfl) (by kernel_rfl) (by kernel_rfl)
      (OpenSpec.preRow_of_cond 8 hx (by kernel_rfl) (fun k hk => by cases hk) (by kernel_rfl) (inodeEncodes_met os))) ?_
  intro W base args ds gs before hval hW _ _ _ hL _ _
  exact inodeEncodes_contract H enc W base args ds gs before hval hW hL

theorem inodeEncodes_said : Rows.InodeEncodesSaid :=
  OpenClaim.holds_of_cond 3 Tryd.f3 rfl rfl rfl rfl rfl rfl rfl ⟨rfl, rfl, rfl, rfl, rfl⟩ rfl rfl rfl rfl rfl (by kernel_rfl) Tryd.func3 (by kernel_rfl)
    (of_decide_eq_true (by kernel_rfl)) (by unfold Func.isWrapper; first | (rw [if_pos (by decide +kernel)]; kernel_rfl) | (rw [if_neg (by decide +kernel)]; exact ⟨rfl, rfl⟩))
    (fun os started H enc _ F => by rw [OpenClaim.pre_eq_preRow]; exact inodeEncodes_lifted os started H enc F)

theorem inodeEncodes_plain (f : FuncId) (fn : Func) (hf : Tryd.pinned.checked.prog.funcNamed "haymow/haymowlaw07.InodeEncodes" = some f) (hfn : Tryd.pinned.checked.prog.funcs[f]? = some fn) :
    false = Tryd.pinned.checked.prog.looks [] ∧ ∀ (j : Nat) t, fn.params[j]? = some t → Tryd.pinned.checked.prog.wantsStandIn t = false := by
  obtain rfl : f = 3 := Option.some.inj ((show Tryd.prog.funcNamed "haymow/haymowlaw07.InodeEncodes" = some 3 by kernel_rfl).symm.trans hf) |>.symm
  obtain rfl : fn = Tryd.f3 := (Option.some.inj (Tryd.func3.symm.trans hfn)).symm
  refine ⟨by kernel_rfl, fun j t ht => ?_⟩
  rw [Tryd.params3] at ht
  have hall : ∀ t ∈ (Tryd.f3).params.toList, Tryd.prog.wantsStandIn t = false := by rw [Tryd.params3]; decide +kernel
  exact hall t (by rw [Tryd.params3]; exact Array.mem_toList_iff.2 (Array.mem_of_getElem? ht))

/-- THE CARD. -/
theorem inodeEncodes_holds : Rows.InodeEncodesCardSaid :=
  Claim7.holds_tied_plain_at .later [] _ _ _ _ inodeEncodes_said (fun _ h => by cases h) (by kernel_rfl) (fun _ h => by cases h) inodeEncodes_row_tie rfl ⟨rfl, rfl⟩ (by kernel_rfl) rfl inodeEncodes_plain (by kernel_rfl)

end Go.Proofs.YtmabdbleakolbaaDoor
