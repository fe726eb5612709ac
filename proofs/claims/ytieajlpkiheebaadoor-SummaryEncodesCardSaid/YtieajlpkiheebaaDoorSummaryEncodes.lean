/-
  SummaryEncodes: every part that may be has the document's summary, and is decoded as it was; others have none. For every input.
-/
import Derived.Test.YtieajlpkiheebaaDoorSumL
namespace Go.Proofs.YtieajlpkiheebaaDoor
open Go.ChangeShapes Go.WideShapes Go.ChangeAt Go.RowKit

set_option maxRecDepth 100000 in
set_option maxHeartbeats 8000000 in
theorem summaryEncodes_walk (w : World) (s n : Int) (e : Bool) (vl : Value) (l : List Sm.En) (hl : Ents w w.heap.size vl l) (hg : ∀ y ∈ l, y.s < 4294967296) (hH : Halves w) :
    Calls Tryd.prog 3 #[.agg #[.int .i64 s, .int .i64 n, .bool e, vl]] w fun r w' => r = .returned (.bool true) ∧ Below w.heap.size w w' := by
  obtain ⟨A, c, rfl, hc, hm, _⟩ := hl.open_
  have HL := Lib.hid hl
  have HG := Lib.hid (show Sm.Good ⟨s, n, e, l.take 20⟩ from fun y hy => hg y (List.mem_of_mem_take hy))
  clear hl hg
  go_enter Tryd.func3, Tryd.ntmps3
  go_wp2_with fail
  have x0 := (Below.refl w.heap.size w).alloc (Nat.le_refl _) (.cells #[.int .i64 s, .int .i64 n, .bool e, .slice A l.length c] 24)
  refine (fewS_any _ _ w.heap.size l (HL.out.below x0)).mono ?_
  rintro r w' ⟨u, rfl, hE, rfl⟩
  replace hE : Ents w w.heap.size u (l.take 20) := hE.keep fun p hp => (World.cell?_alloc_lt w _ p hp).symm
  obtain ⟨A2, c2, rfl, _⟩ := hE.open_
  generalize l.take 20 = m at *
  have HE := Lib.hid hE
  clear HL x0 hE
  go_upto_region 2 with (fail)
  have k1 := Blk.new w 24 #[.int .i64 s, .int .i64 n, .bool e, .slice A2 m.length c2]
  have b1 := (Below.refl w.heap.size w).alloc (Nat.le_refl _) (.cells #[.int .i64 s, .int .i64 n, .bool e, .slice A2 m.length c2] 24)
  obtain ⟨w1, hw1⟩ : ∃ w1, w.alloc (.cells #[.int .i64 s, .int .i64 n, .bool e, .slice A2 m.length c2] 24) = w1 := ⟨_, rfl⟩
  rw [hw1] at k1 b1 ⊢
  clear hw1
  obtain ⟨g1, hg1⟩ : ∃ g1, w.heap.size = g1 := ⟨_, rfl⟩
  rw [hg1] at k1 ⊢
  clear hg1
  have p0 := k1.cell 0
  have p1 := k1.cell 1
  have p2 := k1.cell 2
  have p3 := k1.cell 3
  have hE1 := (HE.out.below b1).more b1.size
  go_wp2_with fail
  cases hmy : Sm.mayB ⟨s, n, e, m⟩ with
  | false =>
    have HMY := Lib.hid hmy
    refine (encodeS_no s n e _ m w1 hE1 hmy).mono ?_
    rintro r w2 ⟨rfl, b2⟩
    replace k1 := k1.ext b2
    replace b1 := b1.trans (b2.mono b1.size)
    clear p0 p1 p2 p3 hE1 hmy b2
    go_upto_region 3 with (fail)
    have hG0 : Below w2.heap.size w2 w2.drew := (Below.refl _ _).drew
    refine wp_region_list 5 [(fun y_ _ => y_ = .agg #[.int .i64 s, .int .i64 n, .bool e, .slice A2 m.length c2]),
      (fun y_ _ => y_ = .bool false),
      (fun y_ _ => y_ = .agg #[.int .i64 s, .int .i64 n, .bool e, .slice A2 m.length c2]),
      (fun y_ _ => y_ = .bool false),
      (fun y_ _ => y_ = .bool false)]
      (fun q => Below w2.heap.size w2 q) (by kernel_rfl) rfl (by kernel_rfl) ?_ ?_ ?_ ?_
    · exact hG0
    · exact ⟨stab_eq _, stab_eq _, stab_eq _, stab_eq _, stab_eq _, trivial⟩
    · refine ⟨?_, ?_, ?_, ?_, ?_, trivial⟩
      · intro a x hG hd hs K hK
        have h1 : a.tmps.getD 1 undef = .pointer (some ⟨g1, 0, none⟩) := hs 1 (by kernel_rfl)
        clear hd hs
        refine wpOp_plain rfl rfl ?_
        refine wp_load_mid 24 (.tmp 1) rfl g1 0 h1 [.int .i64 s, .int .i64 n, .bool e, .slice A2 m.length c2] _ (k1.ext hG).range Tryd.underlying24 rfl (by kernel_rfl) ?_
        exact hK _ _ rfl hG (Below.refl _ _)
      · intro a x hG hd hs K hK
        have h16 : a.tmps.getD 16 undef = .agg #[.int .i64 s, .int .i64 n, .bool e, .slice A2 m.length c2] := hd 0 16 (by kernel_rfl)
        clear hd hs
        refine wpOp_plain rfl rfl ?_
        go_simp
        have y9 := b1.trans (hG.mono b1.size)
        refine (mayS_any s n e _ m _ ((HE.out.below y9).more y9.size)).mono ?_
        rintro r w' ⟨rfl, hb⟩
        rw [HMY.out]
        exact hK _ _ rfl (hG.trans (hb.mono hG.size)) hb
      · intro a x hG hd hs K hK
        have h1 : a.tmps.getD 1 undef = .pointer (some ⟨g1, 0, none⟩) := hs 1 (by kernel_rfl)
        clear hd hs
        refine wpOp_plain rfl rfl ?_
        refine wp_load_mid 24 (.tmp 1) rfl g1 0 h1 [.int .i64 s, .int .i64 n, .bool e, .slice A2 m.length c2] _ (k1.ext hG).range Tryd.underlying24 rfl (by kernel_rfl) ?_
        exact hK _ _ rfl hG (Below.refl _ _)
      · intro a x hG hd hs K hK
        have h18 : a.tmps.getD 18 undef = .agg #[.int .i64 s, .int .i64 n, .bool e, .slice A2 m.length c2] := hd 2 18 (by kernel_rfl)
        clear hd hs
        refine wpOp_plain rfl rfl ?_
        go_simp
        have y9 := b1.trans (hG.mono b1.size)
        refine (rmayS_any s n e _ m _ ((HE.out.below y9).more y9.size)).mono ?_
        rintro r w' ⟨rfl, hb⟩
        rw [HMY.out]
        exact hK _ _ rfl (hG.trans (hb.mono hG.size)) hb
      · intro a x hG hd hs K hK
        have h17 : a.tmps.getD 17 undef = .bool false := hd 1 17 (by kernel_rfl)
        have h19 : a.tmps.getD 19 undef = .bool false := hd 3 19 (by kernel_rfl)
        clear hd hs
        refine wpOp_plain rfl rfl ?_
        go_simp
        exact hK _ _ rfl hG (Below.refl _ _)
    · intro x hG
      rintro _ rfl _ rfl _ rfl _ rfl _ rfl
      simp only [Act.put, List.setIfInBounds_toArray, List.set_cons_zero, List.set_cons_succ, REnd]
      try simp only [Exit.then]
      replace k1 := k1.ext hG
      replace b1 := b1.trans (hG.mono b1.size)
      have p0 := k1.cell 0
      have p1 := k1.cell 1
      have p2 := k1.cell 2
      have p3 := k1.cell 3
      go_wp2_with fail
      refine (rmayS_any s n e _ m x ((HE.out.below b1).more b1.size)).mono ?_
      rintro r w3 ⟨rfl, b3⟩
      rw [HMY.out]
      replace b1 := b1.trans (b3.mono b1.size)
      clear p0 p1 p2 p3 k1 b3 hG hG0
      go_wp2_with fail
      refine (awakeS_any w3 (hH.ext b1)).mono ?_
      rintro r w4 ⟨rfl, b4⟩
      go_wp2
      go_ret
      exact ⟨rfl, b1.trans (b4.mono b1.size)⟩
  | true =>
    have HMY := Lib.hid hmy
    have HSE := Lib.hid (Sm.sm_back ⟨s, n, e, m⟩ hmy HG.out)
    refine (encodeS_yes s n e _ m w1 hE1 HG.out hmy (hH.ext b1)).mono ?_
    rintro r w2 ⟨u, rfl, hBs, b2⟩
    replace k1 := k1.ext b2
    have hb2 := b2
    replace b1 := b1.trans (b2.mono b1.size)
    obtain ⟨Ab, cb, rfl, _⟩ := hBs.open_
    have HBS := Lib.hid hBs
    clear p0 p1 p2 p3 hE1 hmy b2 hBs hb2
    go_upto_region 3 with (fail)
    have hG0 : Below w2.heap.size w2 w2.drew := (Below.refl _ _).drew
    refine wp_region_list 5 [(fun y_ _ => y_ = .agg #[.int .i64 s, .int .i64 n, .bool e, .slice A2 m.length c2]),
      (fun y_ _ => y_ = .bool true),
      (fun y_ _ => y_ = .agg #[.int .i64 s, .int .i64 n, .bool e, .slice A2 m.length c2]),
      (fun y_ _ => y_ = .bool true),
      (fun y_ _ => y_ = .bool false)]
      (fun q => Below w2.heap.size w2 q) (by kernel_rfl) rfl (by kernel_rfl) ?_ ?_ ?_ ?_
    · exact hG0
    · exact ⟨stab_eq _, stab_eq _, stab_eq _, stab_eq _, stab_eq _, trivial⟩
    · refine ⟨?_, ?_, ?_, ?_, ?_, trivial⟩
      · intro a x hG hd hs K hK
        have h1 : a.tmps.getD 1 undef = .pointer (some ⟨g1, 0, none⟩) := hs 1 (by kernel_rfl)
        clear hd hs
        refine wpOp_plain rfl rfl ?_
        refine wp_load_mid 24 (.tmp 1) rfl g1 0 h1 [.int .i64 s, .int .i64 n, .bool e, .slice A2 m.length c2] _ (k1.ext hG).range Tryd.underlying24 rfl (by kernel_rfl) ?_
        exact hK _ _ rfl hG (Below.refl _ _)
      · intro a x hG hd hs K hK
        have h16 : a.tmps.getD 16 undef = .agg #[.int .i64 s, .int .i64 n, .bool e, .slice A2 m.length c2] := hd 0 16 (by kernel_rfl)
        clear hd hs
        refine wpOp_plain rfl rfl ?_
        go_simp
        have y9 := b1.trans (hG.mono b1.size)
        refine (mayS_any s n e _ m _ ((HE.out.below y9).more y9.size)).mono ?_
        rintro r w' ⟨rfl, hb⟩
        rw [HMY.out]
        exact hK _ _ rfl (hG.trans (hb.mono hG.size)) hb
      · intro a x hG hd hs K hK
        have h1 : a.tmps.getD 1 undef = .pointer (some ⟨g1, 0, none⟩) := hs 1 (by kernel_rfl)
        clear hd hs
        refine wpOp_plain rfl rfl ?_
        refine wp_load_mid 24 (.tmp 1) rfl g1 0 h1 [.int .i64 s, .int .i64 n, .bool e, .slice A2 m.length c2] _ (k1.ext hG).range Tryd.underlying24 rfl (by kernel_rfl) ?_
        exact hK _ _ rfl hG (Below.refl _ _)
      · intro a x hG hd hs K hK
        have h18 : a.tmps.getD 18 undef = .agg #[.int .i64 s, .int .i64 n, .bool e, .slice A2 m.length c2] := hd 2 18 (by kernel_rfl)
        clear hd hs
        refine wpOp_plain rfl rfl ?_
        go_simp
        have y9 := b1.trans (hG.mono b1.size)
        refine (rmayS_any s n e _ m _ ((HE.out.below y9).more y9.size)).mono ?_
        rintro r w' ⟨rfl, hb⟩
        rw [HMY.out]
        exact hK _ _ rfl (hG.trans (hb.mono hG.size)) hb
      · intro a x hG hd hs K hK
        have h17 : a.tmps.getD 17 undef = .bool true := hd 1 17 (by kernel_rfl)
        have h19 : a.tmps.getD 19 undef = .bool true := hd 3 19 (by kernel_rfl)
        clear hd hs
        refine wpOp_plain rfl rfl ?_
        go_simp
        exact hK _ _ rfl hG (Below.refl _ _)
    · intro x hG
      rintro _ rfl _ rfl _ rfl _ rfl _ rfl
      simp only [Act.put, List.setIfInBounds_toArray, List.set_cons_zero, List.set_cons_succ, REnd]
      try simp only [Exit.then]
      replace k1 := k1.ext hG
      replace b1 := b1.trans (hG.mono b1.size)
      have x2 := hG
      have p0 := k1.cell 0
      have p1 := k1.cell 1
      have p2 := k1.cell 2
      have p3 := k1.cell 3
      go_wp2_with fail
      refine (rmayS_any s n e _ m x ((HE.out.below b1).more b1.size)).mono ?_
      rintro r w3 ⟨rfl, b3⟩
      rw [HMY.out]
      replace b1 := b1.trans (b3.mono b1.size)
      replace k1 := k1.ext b3
      replace x2 := x2.trans (b3.mono x2.size)
      clear p0 p1 p2 p3 b3 hG hG0
      go_wp2_with fail
      refine (decodeS_any w3 _ (Sm.smE ⟨s, n, e, m⟩) (hH.ext b1) ((HBS.out.ext (Nat.le_refl _) x2).more x2.size)).mono ?_
      rintro r w4 ⟨u4, rfl, hE4, b4⟩
      rw [show decP (Sm.smE ⟨s, n, e, m⟩) = ⟨s, n, e, m⟩ by unfold decP; rw [HSE.out.2, HSE.out.1]; rfl, HSE.out.2] at *
      dsimp only at hE4 ⊢
      obtain ⟨A4, c4, rfl, _⟩ := hE4.open_
      have HE4 := Lib.hid hE4
      replace k1 := k1.ext b4
      replace b1 := b1.trans (b4.mono b1.size)
      replace x2 := x2.trans (b4.mono x2.size)
      clear hE4 b4
      have k5 := Blk.new w4 24 #[.int .i64 s, .int .i64 n, .bool e, .slice A4 m.length c4]
      have y5 := (Below.refl w4.heap.size w4).alloc (Nat.le_refl _) (.cells #[.int .i64 s, .int .i64 n, .bool e, .slice A4 m.length c4] 24)
      go_upto_region 8 with (fail)
      obtain ⟨w5, hw5⟩ : ∃ w5, w4.alloc (.cells #[.int .i64 s, .int .i64 n, .bool e, .slice A4 m.length c4] 24) = w5 := ⟨_, rfl⟩
      rw [hw5] at k5 y5 ⊢
      clear hw5
      replace k1 := k1.ext y5
      replace b1 := b1.trans (y5.mono b1.size)
      replace x2 := x2.trans (y5.mono x2.size)
      generalize w4.heap.size = g5 at k5 ⊢
      have HB5 := Lib.hid ((HBS.out.ext (Nat.le_refl _) x2).more x2.size)
      have HSA := Lib.hid (show sameB ⟨s, n, e, m⟩ ⟨s, n, e, m⟩ = true by unfold sameB; simp)
      generalize hQ : Sm.smE ⟨s, n, e, m⟩ = Q at *
      have HQ := Lib.hid hQ
      clear hQ HSE
      have hG0 : Below w5.heap.size w5 w5.drew := (Below.refl _ _).drew
      refine wp_region_list 22 [(fun y_ _ => y_ = .slice Ab Q.length cb),
        (fun y_ _ => y_ = .string ⟨Q.toArray⟩),
        (fun y_ _ => y_ = .agg #[.int .i64 s, .int .i64 n, .bool e, .slice A2 m.length c2]),
        (fun y_ _ => y_ = .string ⟨Q.toArray⟩),
        (fun y_ _ => y_ = .bool true),
        (fun y_ _ => y_ = .bool true),
        (fun y_ _ => y_ = .int .i64 0),
        (fun y_ _ => y_ = .bool true),
        (fun y_ _ => y_ = .bool true),
        (fun y_ _ => y_ = .bool true),
        (fun y_ _ => y_ = .agg #[.int .i64 s, .int .i64 n, .bool e, .slice A4 m.length c4]),
        (fun y_ _ => y_ = .agg #[.int .i64 s, .int .i64 n, .bool e, .slice A2 m.length c2]),
        (fun y_ _ => y_ = .bool true),
        (fun y_ _ => y_ = .bool true),
        (fun y_ _ => y_ = .bool true),
        (fun y_ _ => y_ = .int .i64 0),
        (fun y_ _ => y_ = .bool true),
        (fun y_ _ => y_ = .bool true),
        (fun y_ _ => y_ = .bool true),
        (fun y_ _ => y_ = .bool true),
        (fun y_ _ => y_ = .bool true),
        (fun y_ _ => y_ = .bool true)]
        (fun q => Below w5.heap.size w5 q) (by kernel_rfl) rfl (by kernel_rfl) ?_ ?_ ?_ ?_
      · exact hG0
      · exact ⟨stab_eq _, stab_eq _, stab_eq _, stab_eq _, stab_eq _, stab_eq _, stab_eq _, stab_eq _, stab_eq _, stab_eq _, stab_eq _, stab_eq _, stab_eq _, stab_eq _, stab_eq _, stab_eq _, stab_eq _, stab_eq _, stab_eq _, stab_eq _, stab_eq _, stab_eq _, trivial⟩
      · refine ⟨?_, ?_, ?_, ?_, ?_, ?_, ?_, ?_, ?_, ?_, ?_, ?_, ?_, ?_, ?_, ?_, ?_, ?_, ?_, ?_, ?_, ?_, trivial⟩
        · intro a x hG hd hs K hK
          have h3 : a.tmps.getD 3 undef = .slice Ab Q.length cb := hs 3 (by kernel_rfl)
          clear hd hs
          refine wpOp_plain rfl rfl ?_
          go_simp
          exact hK _ _ rfl hG (Below.refl _ _)
        · intro a x hG hd hs K hK
          have h39 : a.tmps.getD 39 undef = .slice Ab Q.length cb := hd 0 39 (by kernel_rfl)
          clear hd hs
          refine wpOp_plain rfl rfl ?_
          have hst := run_string_of (P := Tryd.prog) (HB5.out.ext (Nat.le_refl _) hG) 26 9 5 Tryd.underlying26 Tryd.underlying5 Tryd.underlying9
          go_simp
          exact hK _ _ rfl hG (Below.refl _ _)
        · intro a x hG hd hs K hK
          have h1 : a.tmps.getD 1 undef = .pointer (some ⟨g1, 0, none⟩) := hs 1 (by kernel_rfl)
          clear hd hs
          refine wpOp_plain rfl rfl ?_
          refine wp_load_mid 24 (.tmp 1) rfl g1 0 h1 [.int .i64 s, .int .i64 n, .bool e, .slice A2 m.length c2] _ (k1.ext hG).range Tryd.underlying24 rfl (by kernel_rfl) ?_
          exact hK _ _ rfl hG (Below.refl _ _)
        · intro a x hG hd hs K hK
          have h41 : a.tmps.getD 41 undef = .agg #[.int .i64 s, .int .i64 n, .bool e, .slice A2 m.length c2] := hd 2 41 (by kernel_rfl)
          clear hd hs
          refine wpOp_plain rfl rfl ?_
          go_simp
          have y9 := b1.trans (hG.mono b1.size)
          refine (rencodeS_any ⟨s, n, e, m⟩ _ _ ((HE.out.below y9).more y9.size) HG.out HMY.out).mono ?_
          rintro r w' ⟨rfl, hb⟩
          rw [HQ.out]
          exact hK _ _ rfl (hG.trans (hb.mono hG.size)) hb
        · intro a x hG hd hs K hK
          have h40 : a.tmps.getD 40 undef = .string ⟨Q.toArray⟩ := hd 1 40 (by kernel_rfl)
          have h42 : a.tmps.getD 42 undef = .string ⟨Q.toArray⟩ := hd 3 42 (by kernel_rfl)
          clear hd hs
          refine wpOp_plain rfl rfl ?_
          go_simp
          exact hK _ _ rfl hG (Below.refl _ _)
        · intro a x hG hd hs K hK
          have h43 : a.tmps.getD 43 undef = .bool true := hd 4 43 (by kernel_rfl)
          clear hd hs
          refine wpOp_plain rfl rfl ?_
          go_simp
          exact hK _ _ rfl hG (Below.refl _ _)
        · intro a x hG hd hs K hK
          have h4 : a.tmps.getD 4 undef = .int .i64 0 := hs 4 (by kernel_rfl)
          have h44 : a.tmps.getD 44 undef = .bool true := hd 5 44 (by kernel_rfl)
          clear hd hs
          refine wpOp_yes rfl rfl rfl h44 ?_
          go_simp
          exact hK _ _ rfl hG (Below.refl _ _)
        · intro a x hG hd hs K hK
          have h45 : a.tmps.getD 45 undef = .int .i64 0 := hd 6 45 (by kernel_rfl)
          have h44 : a.tmps.getD 44 undef = .bool true := hd 5 44 (by kernel_rfl)
          clear hd hs
          refine wpOp_yes rfl rfl rfl h44 ?_
          go_simp
          exact hK _ _ rfl hG (Below.refl _ _)
        · intro a x hG hd hs K hK
          have h44 : a.tmps.getD 44 undef = .bool true := hd 5 44 (by kernel_rfl)
          have h46 : a.tmps.getD 46 undef = .bool true := hd 7 46 (by kernel_rfl)
          clear hd hs
          refine wpOp_plain rfl rfl ?_
          go_simp
          exact hK _ _ rfl hG (Below.refl _ _)
        · intro a x hG hd hs K hK
          have h47 : a.tmps.getD 47 undef = .bool true := hd 8 47 (by kernel_rfl)
          clear hd hs
          refine wpOp_plain rfl rfl ?_
          go_simp
          exact hK _ _ rfl hG (Below.refl _ _)
        · intro a x hG hd hs K hK
          have h5 : a.tmps.getD 5 undef = .pointer (some ⟨g5, 0, none⟩) := hs 5 (by kernel_rfl)
          have h48 : a.tmps.getD 48 undef = .bool true := hd 9 48 (by kernel_rfl)
          clear hd hs
          refine wpOp_yes rfl rfl rfl h48 ?_
          refine wp_load_mid 24 (.tmp 5) rfl g5 0 h5 [.int .i64 s, .int .i64 n, .bool e, .slice A4 m.length c4] _ (k5.ext hG).range Tryd.underlying24 rfl (by kernel_rfl) ?_
          exact hK _ _ rfl hG (Below.refl _ _)
        · intro a x hG hd hs K hK
          have h1 : a.tmps.getD 1 undef = .pointer (some ⟨g1, 0, none⟩) := hs 1 (by kernel_rfl)
          have h48 : a.tmps.getD 48 undef = .bool true := hd 9 48 (by kernel_rfl)
          clear hd hs
          refine wpOp_yes rfl rfl rfl h48 ?_
          refine wp_load_mid 24 (.tmp 1) rfl g1 0 h1 [.int .i64 s, .int .i64 n, .bool e, .slice A2 m.length c2] _ (k1.ext hG).range Tryd.underlying24 rfl (by kernel_rfl) ?_
          exact hK _ _ rfl hG (Below.refl _ _)
        · intro a x hG hd hs K hK
          have h49 : a.tmps.getD 49 undef = .agg #[.int .i64 s, .int .i64 n, .bool e, .slice A4 m.length c4] := hd 10 49 (by kernel_rfl)
          have h50 : a.tmps.getD 50 undef = .agg #[.int .i64 s, .int .i64 n, .bool e, .slice A2 m.length c2] := hd 11 50 (by kernel_rfl)
          have h48 : a.tmps.getD 48 undef = .bool true := hd 9 48 (by kernel_rfl)
          clear hd hs
          refine wpOp_yes rfl rfl rfl h48 ?_
          go_simp
          have y9 := b1.trans (hG.mono b1.size)
          have y8 := y5.trans (hG.mono y5.size)
          refine (rsameS_any s n s n e e _ _ m m _ ((HE4.out.below y8).more y8.size) ((HE.out.below y9).more y9.size)).mono ?_
          rintro r w' ⟨rfl, hb⟩
          rw [HSA.out]
          exact hK _ _ rfl (hG.trans (hb.mono hG.size)) hb
        · intro a x hG hd hs K hK
          have h48 : a.tmps.getD 48 undef = .bool true := hd 9 48 (by kernel_rfl)
          have h51 : a.tmps.getD 51 undef = .bool true := hd 12 51 (by kernel_rfl)
          clear hd hs
          refine wpOp_plain rfl rfl ?_
          go_simp
          exact hK _ _ rfl hG (Below.refl _ _)
        · intro a x hG hd hs K hK
          have h52 : a.tmps.getD 52 undef = .bool true := hd 13 52 (by kernel_rfl)
          clear hd hs
          refine wpOp_plain rfl rfl ?_
          go_simp
          exact hK _ _ rfl hG (Below.refl _ _)
        · intro a x hG hd hs K hK
          have h6 : a.tmps.getD 6 undef = .int .i64 0 := hs 6 (by kernel_rfl)
          have h53 : a.tmps.getD 53 undef = .bool true := hd 14 53 (by kernel_rfl)
          clear hd hs
          refine wpOp_yes rfl rfl rfl h53 ?_
          go_simp
          exact hK _ _ rfl hG (Below.refl _ _)
        · intro a x hG hd hs K hK
          have h54 : a.tmps.getD 54 undef = .int .i64 0 := hd 15 54 (by kernel_rfl)
          have h53 : a.tmps.getD 53 undef = .bool true := hd 14 53 (by kernel_rfl)
          clear hd hs
          refine wpOp_yes rfl rfl rfl h53 ?_
          go_simp
          exact hK _ _ rfl hG (Below.refl _ _)
        · intro a x hG hd hs K hK
          have h53 : a.tmps.getD 53 undef = .bool true := hd 14 53 (by kernel_rfl)
          have h55 : a.tmps.getD 55 undef = .bool true := hd 16 55 (by kernel_rfl)
          clear hd hs
          refine wpOp_plain rfl rfl ?_
          go_simp
          exact hK _ _ rfl hG (Below.refl _ _)
        · intro a x hG hd hs K hK
          have h56 : a.tmps.getD 56 undef = .bool true := hd 17 56 (by kernel_rfl)
          clear hd hs
          refine wpOp_plain rfl rfl ?_
          go_simp
          exact hK _ _ rfl hG (Below.refl _ _)
        · intro a x hG hd hs K hK
          have h57 : a.tmps.getD 57 undef = .bool true := hd 18 57 (by kernel_rfl)
          clear hd hs
          refine wpOp_yes rfl rfl rfl h57 ?_
          go_simp
          refine (awakeS_any _ (hH.ext (b1.trans (hG.mono b1.size)))).mono ?_
          rintro r w' ⟨rfl, hb⟩
          exact hK _ _ rfl (hG.trans (hb.mono hG.size)) hb
        · intro a x hG hd hs K hK
          have h57 : a.tmps.getD 57 undef = .bool true := hd 18 57 (by kernel_rfl)
          have h58 : a.tmps.getD 58 undef = .bool true := hd 19 58 (by kernel_rfl)
          clear hd hs
          refine wpOp_plain rfl rfl ?_
          go_simp
          exact hK _ _ rfl hG (Below.refl _ _)
        · intro a x hG hd hs K hK
          have h59 : a.tmps.getD 59 undef = .bool true := hd 20 59 (by kernel_rfl)
          clear hd hs
          refine wpOp_plain rfl rfl ?_
          go_simp
          exact hK _ _ rfl hG (Below.refl _ _)
      · intro x hG
        rintro _ rfl _ rfl _ rfl _ rfl _ rfl _ rfl _ rfl _ rfl _ rfl _ rfl _ rfl _ rfl _ rfl _ rfl _ rfl _ rfl _ rfl _ rfl _ rfl _ rfl _ rfl _ rfl
        simp only [Act.put, List.setIfInBounds_toArray, List.set_cons_zero, List.set_cons_succ, REnd]
        try simp only [Exit.then]
        have c9 := b1.trans (hG.mono b1.size)
        clear hG hG0 k1 k5 b1 y5 x2
        go_wp2
        go_ret
        exact ⟨rfl, c9⟩

/-- What the walk gives, for every argument and every world that holds the table. -/
theorem summaryEncodes_contract (H : Type) (enc : TypeId × Value → H) (W : World) (base : Nat) (args : Array Value) (ds gs : List (DataW H)) (before : List MemPlace)
    (hval : ∀ (j : Nat) t v, Tryd.f3.params[j]? = some t → args[j]? = some v → Value.okWide Tryd.prog W .any base t v)
    (hW : DataW.Whole enc Tryd.prog Tryd.f3.params.toList Rows.summaryEncodesSpec.vars false W args.toList ds gs before) (hL : laidMetH Tryd.prog Rows.summaryEncodesRow.laid W) :
    Calls Tryd.prog 3 args W fun e W' => ∃ v, e = .returned v ∧ Rows.summaryEncodesSpec.post enc Tryd.prog Tryd.f3 false true false false W args v W' := by
  have hW' := hW
  obtain ⟨p, q, hA0, hV, hps, hfz, hnd⟩ := hW
  have hA : DataW.TrodAll enc Tryd.prog W 0 (fun _ => true) true Tryd.f3.params.toList args.toList ds p := hA0
  rw [Tryd.params3] at hA hval
  obtain ⟨v0, vs0, d0, ds0, p0, q0, hargs, rfl, rfl, h0, r0⟩ := trodAll_cons hA
  obtain ⟨rfl, rfl, rfl⟩ := trodAll_nil r0
  obtain rfl : args = #[v0] := by cases args; simp_all
  obtain ⟨rfl, rfl⟩ := trodVars_none hV
  obtain ⟨s0, n0, e0, vl0, l0, rfl, b0, g0⟩ := part_of_trod (hval 0 24 v0 rfl rfl) h0
  clear hA0
  refine (summaryEncodes_walk W s0 n0 e0 vl0 l0 b0 g0 (halves_of hL)).mono fun e W' ⟨he, hb⟩ => ?_
  subst he
  exact ⟨_, rfl, law_post laidOut (by rw [Tryd.params3]; decide +kernel) rfl Tryd.underlying4 rfl rfl hW' hb⟩

theorem summaryEncodes_met (os : Os) : laidMet Tryd.prog Rows.summaryEncodesRow.laid ((laidWorld os).forCall (fun _ _ => 0) ⟨#[], #[.agg #[.int .i64 0, .int .i64 0, .bool false, .slice none 0 0]], []⟩).memory :=
  laidMet_of_run' 8 (by kernel_rfl) (by kernel_rfl)
theorem summaryEncodes_reads (os : Os) {H : Type} (enc : TypeId × Value → H) : ∃ places, DataW.whole enc Tryd.prog ((laidWorld os).forCall (fun _ _ => 0) ⟨#[], #[.agg #[.int .i64 0, .int .i64 0, .bool false, .slice none 0 0]], []⟩).memory Tryd.f3.params.toList Rows.summaryEncodesSpec.vars false (#[.agg #[.int .i64 0, .int .i64 0, .bool false, .slice none 0 0]] : Array Value).toList 8 = some ([.agg [.lit (.int .i64 0), .lit (.int .i64 0), .lit (.bool false), .nil]], [], places) :=
  ⟨[], by kernel_rfl⟩

set_option maxRecDepth 100000 in
theorem summaryEncodes_lifted (os : Os) (started : os.Started) (H : Type) (enc : TypeId × Value → H) (F : Stop.Interp) :
    ReturnsInHanded {} Tryd.checked os 3 .any ((OpenSpec.ofChange Rows.summaryEncodesSpec).preRow enc Tryd.prog Tryd.f3 Rows.summaryEncodesRow.domain false Rows.summaryEncodesRow.laid) (((OpenSpec.ofChange Rows.summaryEncodesSpec).at F).post enc Tryd.prog Tryd.f3 false true false false) := by
  obtain ⟨places, hx⟩ := summaryEncodes_reads os enc
  refine returnsInHanded_of_row (C := Tryd.checked) (s := OpenSpec.ofChange Rows.summaryEncodesSpec) own started (by kernel_rfl) Tryd.func3
    (witness_row_at (enc := enc) (C := Tryd.checked) false (laidWorld os) #[.agg #[.int .i64 0, .int .i64 0, .bool false, .slice none 0 0]] rfl (by kernel_rfl) (by kernel_rfl) (by kernel_rfl)
      (OpenSpec.preRow_of_cond 8 hx (by kernel_rfl) (fun k hk => by cases hk) (by kernel_rfl) (summaryEncodes_met os))) ?_
  intro W base args ds gs before hval hW _ _ _ hL _ _
  exact summaryEncodes_contract H enc W base args ds gs before hval hW hL

theorem summaryEncodes_said : Rows.SummaryEncodesSaid :=
  OpenClaim.holds_of_cond 3 Tryd.f3 rfl rfl rfl rfl rfl rfl rfl ⟨rfl, rfl, rfl, rfl, rfl⟩ rfl rfl rfl rfl rfl (by kernel_rfl) Tryd.func3 (by kernel_rfl)
    (of_decide_eq_true (by kernel_rfl)) (by unfold Func.isWrapper; first | (rw [if_pos (by decide +kernel)]; kernel_rfl) | (rw [if_neg (by decide +kernel)]; exact ⟨rfl, rfl⟩))
    (fun os started H enc _ F => by rw [OpenClaim.pre_eq_preRow]; exact summaryEncodes_lifted os started H enc F)

theorem summaryEncodes_plain (f : FuncId) (fn : Func) (hf : Tryd.pinned.checked.prog.funcNamed "haymow/haymowlaw06.SummaryEncodes" = some f) (hfn : Tryd.pinned.checked.prog.funcs[f]? = some fn) :
    false = Tryd.pinned.checked.prog.looks [] ∧ ∀ (j : Nat) t, fn.params[j]? = some t → Tryd.pinned.checked.prog.wantsStandIn t = false := by
  obtain rfl : f = 3 := Option.some.inj ((show Tryd.prog.funcNamed "haymow/haymowlaw06.SummaryEncodes" = some 3 by kernel_rfl).symm.trans hf) |>.symm
  obtain rfl : fn = Tryd.f3 := (Option.some.inj (Tryd.func3.symm.trans hfn)).symm
  refine ⟨by kernel_rfl, fun j t ht => ?_⟩
  rw [Tryd.params3] at ht
  have hall : ∀ t ∈ (Tryd.f3).params.toList, Tryd.prog.wantsStandIn t = false := by rw [Tryd.params3]; decide +kernel
  exact hall t (by rw [Tryd.params3]; exact Array.mem_toList_iff.2 (Array.mem_of_getElem? ht))

/-- THE CARD. -/
theorem summaryEncodes_holds : Rows.SummaryEncodesCardSaid :=
  Claim7.holds_tied_plain_at .later [] _ _ _ _ summaryEncodes_said (fun _ h => by cases h) (by kernel_rfl) (fun _ h => by cases h) summaryEncodes_row_tie rfl ⟨rfl, rfl⟩ (by kernel_rfl) rfl summaryEncodes_plain (by kernel_rfl)

end Go.Proofs.YtieajlpkiheebaaDoor
