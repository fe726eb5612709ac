/-
  CkptCodes: every checkpoint that may be has the document's block, is decoded as it was, and has its place; whatever octets there are are the document's checkpoint, or refused with its error. For every input.
-/
import Derived.Test.YtkkbmhlmgbepjaaDoorCkL
namespace Go.Proofs.YtkkbmhlmgbepjaaDoor
open Go.ChangeShapes Go.WideShapes Go.ChangeAt Go.RowKit

set_option maxRecDepth 100000 in
set_option maxHeartbeats 8000000 in
theorem ckptCodes_walk (w : World) (X : Ck.Ck) (v : Value) (l : List UInt8) (hgd : Ck.Good X) (hH : Halves w) (h : Bs w w.heap.size v l) :
    Calls Tryd.prog 3 #[cagg X, v] w fun e w' => e = .returned (.bool true) ∧ Below w.heap.size w w' := by
  have HXL := Lib.hid (And.intro hgd.1 hgd.2.1)
  have HGD := Lib.hid hgd
  clear hgd
  unfold cagg
  go_enter Tryd.func3, Tryd.ntmps3
  go_upto_region 1 with (fail)
  have i0 := Blk.new w 28 (ccells X).toArray
  have c0 := (Below.refl w.heap.size w).alloc (Nat.le_refl _) (.cells (ccells X).toArray 28)
  change Blk _ _ _ (ccells X) at i0
  generalize w.alloc (.cells (ccells X).toArray 28) = w0 at *
  generalize w.heap.size = g2 at i0 ⊢
  go_wp2_with fail
  refine (few_any w0 v _ l (h.ext (Nat.le_refl _) c0)).mono ?_
  rintro e w' ⟨u1, rfl, h1, rfl⟩
  have hl1 : (l.take 200).length ≤ 200 := by rw [List.length_take]; omega
  clear h
  generalize l.take 200 = q at *
  have HQ := Lib.hid (h1.more c0.size)
  clear h1
  go_wp2_with fail
  refine (decodeC_any w0 u1 q (hH.ext c0) HQ.out).mono ?_
  rintro e w1 ⟨rfl, b1⟩
  have HZL := Lib.hid (dec_len q)
  have HR := Lib.hid (fun W => rdecodeC_any W q (by omega))
  unfold DecC at HR
  generalize dec q = Z at *
  generalize Ck.ckErr q = E at *
  unfold cagg at HR ⊢
  have i1 := i0.ext b1
  have c1 := c0.trans (b1.mono c0.size)
  have HQ1 := Lib.hid (HQ.out.ext (Nat.le_refl _) b1)
  have s1 := b1.size
  clear i0 c0 b1 HQ
  go_upto_region 3 with (with_reducible refine wpList_store_new rfl 28 (.tmp 5) (.tmp 18) rfl (ccells Z) rfl rfl ?_ rfl (infoC _ HZL.out.1 HZL.out.2) ccells_one ?_)
  · rw [ccells_len _ HZL.out.1 HZL.out.2]; exact Nat.le_refl 19
  generalize hW : (w1.alloc (.cells _ 28)).setCells w1.heap.size 0 _ = w2
  have k2 : Blk w2 w1.heap.size 28 (ccells Z) := by rw [← hW]; exact Blk.varC rfl HZL.out.1 HZL.out.2
  have b2 : Below w1.heap.size w1 w2 := by rw [← hW]; exact below_varC
  clear hW
  have i2 := i1.ext b2
  have c2 := c1.trans (b2.mono c1.size)
  have hst := run_string_of (P := Tryd.prog) (HQ1.out.ext s1 b2) 29 9 5 Tryd.underlying29 Tryd.underlying5 Tryd.underlying9
  generalize w1.heap.size = g5 at *
  clear i1 c1 b2 HQ1 s1
  go_wp2_with fail
  clear hst
  refine (HR.out _).mono ?_
  rintro e w3 ⟨rfl, b3⟩
  have i3 := i2.ext b3
  have k3 := k2.ext b3
  have c3 := c2.trans (b3.mono c2.size)
  clear i2 k2 c2 b3 HR
  go_upto_region 4 with (with_reducible refine wpList_store_new rfl 28 (.tmp 7) (.tmp 24) rfl (ccells Z) rfl rfl ?_ rfl (infoC _ HZL.out.1 HZL.out.2) ccells_one ?_)
  · rw [ccells_len _ HZL.out.1 HZL.out.2]; exact Nat.le_refl 19
  generalize hW : (w3.alloc (.cells _ 28)).setCells w3.heap.size 0 _ = w4
  have j4 : Blk w4 w3.heap.size 28 (ccells Z) := by rw [← hW]; exact Blk.varC rfl HZL.out.1 HZL.out.2
  have b4 : Below w3.heap.size w3 w4 := by rw [← hW]; exact below_varC
  clear hW
  have i4 := i3.ext b4
  have k4 := k3.ext b4
  have c4 := c3.trans (b4.mono c3.size)
  generalize w3.heap.size = g7 at *
  clear i3 k3 c3 b4
  cases hm : Ck.mayB X with
  | false =>
    have HM := Lib.hid hm
    have HPL := Lib.hid (show plc X = -1 by unfold plc; rw [hm]; rfl)
    clear hm
    have hG0 : Below w4.heap.size w4 w4.drew := (Below.refl _ _).drew
    refine wp_region_list 15 [(fun y_ _ => y_ = .agg (ccells Z).toArray),
      (fun y_ _ => y_ = .agg (ccells Z).toArray),
      (fun y_ _ => y_ = .bool false),
      (fun y_ _ => y_ = .bool false),
      (fun y_ _ => y_ = .int .i64 (E : Int)),
      (fun y_ _ => y_ = .int .i64 (E : Int)),
      (fun y_ _ => y_ = .bool false),
      (fun y_ _ => y_ = .bool false),
      (fun y_ _ => y_ = .bool false),
      (fun y_ _ => y_ = .agg (ccells X).toArray),
      (fun y_ _ => y_ = .bool false),
      (fun y_ _ => y_ = .agg (ccells X).toArray),
      (fun y_ _ => y_ = .bool false),
      (fun y_ _ => y_ = .bool false),
      (fun y_ _ => y_ = .bool false)]
      (fun x => Below w4.heap.size w4 x) (by kernel_rfl) rfl (by kernel_rfl) ?_ ?_ ?_ ?_
    · exact hG0
    · exact ⟨stab_eq _, stab_eq _, stab_eq _, stab_eq _, stab_eq _, stab_eq _, stab_eq _, stab_eq _, stab_eq _, stab_eq _, stab_eq _, stab_eq _, stab_eq _, stab_eq _, stab_eq _, trivial⟩
    · refine ⟨?_, ?_, ?_, ?_, ?_, ?_, ?_, ?_, ?_, ?_, ?_, ?_, ?_, ?_, ?_, trivial⟩
      · intro a x hG hd hs K hK
        have h5 : a.tmps.getD 5 undef = .pointer (some ⟨g5, 0, none⟩) := hs 5 (by kernel_rfl)
        clear hd hs
        refine wpOp_plain rfl rfl ?_
        refine wp_load_mid 28 (.tmp 5) rfl g5 0 h5 (ccells Z) _ (k4.ext hG).range Tryd.underlying28 rfl (infoC _ HZL.out.1 HZL.out.2) ?_
        exact hK _ _ rfl hG (Below.refl _ _)
      · intro a x hG hd hs K hK
        have h7 : a.tmps.getD 7 undef = .pointer (some ⟨g7, 0, none⟩) := hs 7 (by kernel_rfl)
        clear hd hs
        refine wpOp_plain rfl rfl ?_
        refine wp_load_mid 28 (.tmp 7) rfl g7 0 h7 (ccells Z) _ (j4.ext hG).range Tryd.underlying28 rfl (infoC _ HZL.out.1 HZL.out.2) ?_
        exact hK _ _ rfl hG (Below.refl _ _)
      · intro a x hG hd hs K hK
        have h26 : a.tmps.getD 26 undef = .agg (ccells Z).toArray := hd 0 26 (by kernel_rfl)
        have h27 : a.tmps.getD 27 undef = .agg (ccells Z).toArray := hd 1 27 (by kernel_rfl)
        clear hd hs
        refine wpOp_plain rfl rfl ?_
        refine wp_binop .neq 28 28 (.tmp 26) (.tmp 27) rfl h26 h27 eqGuardC (run_eql_ck Z Z HZL.out HZL.out true (by simp) _).2 ?_
        exact hK _ _ rfl hG (Below.refl _ _)
      · intro a x hG hd hs K hK
        have h28 : a.tmps.getD 28 undef = .bool false := hd 2 28 (by kernel_rfl)
        clear hd hs
        refine wpOp_plain rfl rfl ?_
        go_simp
        exact hK _ _ rfl hG (Below.refl _ _)
      · intro a x hG hd hs K hK
        have h6 : a.tmps.getD 6 undef = .int .i64 (E : Int) := hs 6 (by kernel_rfl)
        have h29 : a.tmps.getD 29 undef = .bool false := hd 3 29 (by kernel_rfl)
        clear hd hs
        refine wpOp_yes rfl rfl rfl h29 ?_
        go_simp
        exact hK _ _ rfl hG (Below.refl _ _)
      · intro a x hG hd hs K hK
        have h8 : a.tmps.getD 8 undef = .int .i64 (E : Int) := hs 8 (by kernel_rfl)
        have h29 : a.tmps.getD 29 undef = .bool false := hd 3 29 (by kernel_rfl)
        clear hd hs
        refine wpOp_yes rfl rfl rfl h29 ?_
        go_simp
        exact hK _ _ rfl hG (Below.refl _ _)
      · intro a x hG hd hs K hK
        have h30 : a.tmps.getD 30 undef = .int .i64 (E : Int) := hd 4 30 (by kernel_rfl)
        have h31 : a.tmps.getD 31 undef = .int .i64 (E : Int) := hd 5 31 (by kernel_rfl)
        have h29 : a.tmps.getD 29 undef = .bool false := hd 3 29 (by kernel_rfl)
        clear hd hs
        refine wpOp_yes rfl rfl rfl h29 ?_
        go_simp
        exact hK _ _ rfl hG (Below.refl _ _)
      · intro a x hG hd hs K hK
        have h29 : a.tmps.getD 29 undef = .bool false := hd 3 29 (by kernel_rfl)
        have h32 : a.tmps.getD 32 undef = .bool false := hd 6 32 (by kernel_rfl)
        clear hd hs
        refine wpOp_plain rfl rfl ?_
        go_simp
        exact hK _ _ rfl hG (Below.refl _ _)
      · intro a x hG hd hs K hK
        have h33 : a.tmps.getD 33 undef = .bool false := hd 7 33 (by kernel_rfl)
        clear hd hs
        refine wpOp_plain rfl rfl ?_
        go_simp
        exact hK _ _ rfl hG (Below.refl _ _)
      · intro a x hG hd hs K hK
        have h2 : a.tmps.getD 2 undef = .pointer (some ⟨g2, 0, none⟩) := hs 2 (by kernel_rfl)
        have h34 : a.tmps.getD 34 undef = .bool false := hd 8 34 (by kernel_rfl)
        clear hd hs
        refine wpOp_yes rfl rfl rfl h34 ?_
        refine wp_load_mid 28 (.tmp 2) rfl g2 0 h2 (ccells X) _ (i4.ext hG).range Tryd.underlying28 rfl (infoC _ HXL.out.1 HXL.out.2) ?_
        exact hK _ _ rfl hG (Below.refl _ _)
      · intro a x hG hd hs K hK
        have h35 : a.tmps.getD 35 undef = .agg (ccells X).toArray := hd 9 35 (by kernel_rfl)
        have h34 : a.tmps.getD 34 undef = .bool false := hd 8 34 (by kernel_rfl)
        clear hd hs
        refine wpOp_yes rfl rfl rfl h34 ?_
        go_simp
        refine (mayC_any X _ HXL.out.1 HXL.out.2).mono ?_
        rintro e w' ⟨rfl, hb⟩
        rw [HM.out]
        exact hK _ _ rfl (hG.trans (hb.mono hG.size)) hb
      · intro a x hG hd hs K hK
        have h2 : a.tmps.getD 2 undef = .pointer (some ⟨g2, 0, none⟩) := hs 2 (by kernel_rfl)
        have h34 : a.tmps.getD 34 undef = .bool false := hd 8 34 (by kernel_rfl)
        clear hd hs
        refine wpOp_yes rfl rfl rfl h34 ?_
        refine wp_load_mid 28 (.tmp 2) rfl g2 0 h2 (ccells X) _ (i4.ext hG).range Tryd.underlying28 rfl (infoC _ HXL.out.1 HXL.out.2) ?_
        exact hK _ _ rfl hG (Below.refl _ _)
      · intro a x hG hd hs K hK
        have h37 : a.tmps.getD 37 undef = .agg (ccells X).toArray := hd 11 37 (by kernel_rfl)
        have h34 : a.tmps.getD 34 undef = .bool false := hd 8 34 (by kernel_rfl)
        clear hd hs
        refine wpOp_yes rfl rfl rfl h34 ?_
        go_simp
        refine (rmayC_any X _ HXL.out.1 HXL.out.2).mono ?_
        rintro e w' ⟨rfl, hb⟩
        rw [HM.out]
        exact hK _ _ rfl (hG.trans (hb.mono hG.size)) hb
      · intro a x hG hd hs K hK
        have h36 : a.tmps.getD 36 undef = .bool false := hd 10 36 (by kernel_rfl)
        have h38 : a.tmps.getD 38 undef = .bool false := hd 12 38 (by kernel_rfl)
        have h34 : a.tmps.getD 34 undef = .bool false := hd 8 34 (by kernel_rfl)
        clear hd hs
        refine wpOp_yes rfl rfl rfl h34 ?_
        go_simp
        exact hK _ _ rfl hG (Below.refl _ _)
      · intro a x hG hd hs K hK
        have h34 : a.tmps.getD 34 undef = .bool false := hd 8 34 (by kernel_rfl)
        have h39 : a.tmps.getD 39 undef = .bool false := hd 13 39 (by kernel_rfl)
        clear hd hs
        refine wpOp_plain rfl rfl ?_
        go_simp
        exact hK _ _ rfl hG (Below.refl _ _)
    · intro x hG
      rintro _ rfl _ rfl _ rfl _ rfl _ rfl _ rfl _ rfl _ rfl _ rfl _ rfl _ rfl _ rfl _ rfl _ rfl _ rfl
      simp only [Act.put, List.setIfInBounds_toArray, List.set_cons_zero, List.set_cons_succ, REnd]
      try simp only [Exit.then]
      have i5 := i4.ext hG
      have c5 := c4.trans (hG.mono c4.size)
      obtain ⟨w5, rfl⟩ : ∃ w5, w5 = x := ⟨x, rfl⟩
      clear i4 k4 j4 c4 hG
      have r5 := i5.range
      go_wp2_with (refine wpList_load_at 28 (.tmp 2) rfl rfl g2 0 rfl (ccells X) _ r5 Tryd.underlying28 rfl (infoC _ HXL.out.1 HXL.out.2) ?_)
      refine (encodeC_no X _ HXL.out.1 HXL.out.2 HM.out).mono ?_
      rintro e w6 ⟨rfl, b6⟩
      have i6 := i5.ext b6
      have c6 := c5.trans (b6.mono c5.size)
      clear r5 i5 c5 b6
      have r6 := i6.range
      go_wp2_with (refine wpList_load_at 28 (.tmp 2) rfl rfl g2 0 rfl (ccells X) _ r6 Tryd.underlying28 rfl (infoC _ HXL.out.1 HXL.out.2) ?_)
      refine (rmayC_any X _ HXL.out.1 HXL.out.2).mono ?_
      rintro e w7 ⟨rfl, b7⟩
      rw [HM.out]
      have i7 := i6.ext b7
      have c7 := c6.trans (b7.mono c6.size)
      clear r6 i6 c6 b7
      have r7 := i7.range
      go_wp2_with (refine wpList_load_at 28 (.tmp 2) rfl rfl g2 0 rfl (ccells X) _ r7 Tryd.underlying28 rfl (infoC _ HXL.out.1 HXL.out.2) ?_)
      refine (place_any X _ HXL.out.1 HXL.out.2).mono ?_
      rintro e w8 ⟨rfl, b8⟩
      rw [HPL.out]
      have c8 := c7.trans (b8.mono c7.size)
      clear r7 i7 c7 b8
      go_wp2_with fail
      refine (awakeC_any _ (hH.ext c8)).mono ?_
      rintro e w9 ⟨rfl, b9⟩
      go_wp2
      go_ret
      exact ⟨rfl, c8.trans (b9.mono c8.size)⟩
  | true =>
    have HM := Lib.hid hm
    have HPL := Lib.hid (show plc X = X.s % 2 by unfold plc; rw [hm]; rfl)
    have hbk := Ck.ck_back X hm HGD.out
    have HBD := Lib.hid (show dec (Ck.ckE X) = X ∧ Ck.ckErr (Ck.ckE X) = 0 by refine ⟨?_, hbk.2⟩; unfold dec; rw [if_pos hbk.2]; exact hbk.1)
    have hbd := (Ck.may_parts hm).1
    have z1 : 1 ≤ X.s := by omega
    have z2 : X.s ≤ 281474976710655 := by omega
    clear hm hbk hbd
    have hG0 : Below w4.heap.size w4 w4.drew := (Below.refl _ _).drew
    refine wp_region_list 15 [(fun y_ _ => y_ = .agg (ccells Z).toArray),
      (fun y_ _ => y_ = .agg (ccells Z).toArray),
      (fun y_ _ => y_ = .bool false),
      (fun y_ _ => y_ = .bool false),
      (fun y_ _ => y_ = .int .i64 (E : Int)),
      (fun y_ _ => y_ = .int .i64 (E : Int)),
      (fun y_ _ => y_ = .bool false),
      (fun y_ _ => y_ = .bool false),
      (fun y_ _ => y_ = .bool false),
      (fun y_ _ => y_ = .agg (ccells X).toArray),
      (fun y_ _ => y_ = .bool true),
      (fun y_ _ => y_ = .agg (ccells X).toArray),
      (fun y_ _ => y_ = .bool true),
      (fun y_ _ => y_ = .bool false),
      (fun y_ _ => y_ = .bool false)]
      (fun x => Below w4.heap.size w4 x) (by kernel_rfl) rfl (by kernel_rfl) ?_ ?_ ?_ ?_
    · exact hG0
    · exact ⟨stab_eq _, stab_eq _, stab_eq _, stab_eq _, stab_eq _, stab_eq _, stab_eq _, stab_eq _, stab_eq _, stab_eq _, stab_eq _, stab_eq _, stab_eq _, stab_eq _, stab_eq _, trivial⟩
    · refine ⟨?_, ?_, ?_, ?_, ?_, ?_, ?_, ?_, ?_, ?_, ?_, ?_, ?_, ?_, ?_, trivial⟩
      · intro a x hG hd hs K hK
        have h5 : a.tmps.getD 5 undef = .pointer (some ⟨g5, 0, none⟩) := hs 5 (by kernel_rfl)
        clear hd hs
        refine wpOp_plain rfl rfl ?_
        refine wp_load_mid 28 (.tmp 5) rfl g5 0 h5 (ccells Z) _ (k4.ext hG).range Tryd.underlying28 rfl (infoC _ HZL.out.1 HZL.out.2) ?_
        exact hK _ _ rfl hG (Below.refl _ _)
      · intro a x hG hd hs K hK
        have h7 : a.tmps.getD 7 undef = .pointer (some ⟨g7, 0, none⟩) := hs 7 (by kernel_rfl)
        clear hd hs
        refine wpOp_plain rfl rfl ?_
        refine wp_load_mid 28 (.tmp 7) rfl g7 0 h7 (ccells Z) _ (j4.ext hG).range Tryd.underlying28 rfl (infoC _ HZL.out.1 HZL.out.2) ?_
        exact hK _ _ rfl hG (Below.refl _ _)
      · intro a x hG hd hs K hK
        have h26 : a.tmps.getD 26 undef = .agg (ccells Z).toArray := hd 0 26 (by kernel_rfl)
        have h27 : a.tmps.getD 27 undef = .agg (ccells Z).toArray := hd 1 27 (by kernel_rfl)
        clear hd hs
        refine wpOp_plain rfl rfl ?_
        refine wp_binop .neq 28 28 (.tmp 26) (.tmp 27) rfl h26 h27 eqGuardC (run_eql_ck Z Z HZL.out HZL.out true (by simp) _).2 ?_
        exact hK _ _ rfl hG (Below.refl _ _)
      · intro a x hG hd hs K hK
        have h28 : a.tmps.getD 28 undef = .bool false := hd 2 28 (by kernel_rfl)
        clear hd hs
        refine wpOp_plain rfl rfl ?_
        go_simp
        exact hK _ _ rfl hG (Below.refl _ _)
      · intro a x hG hd hs K hK
        have h6 : a.tmps.getD 6 undef = .int .i64 (E : Int) := hs 6 (by kernel_rfl)
        have h29 : a.tmps.getD 29 undef = .bool false := hd 3 29 (by kernel_rfl)
        clear hd hs
        refine wpOp_yes rfl rfl rfl h29 ?_
        go_simp
        exact hK _ _ rfl hG (Below.refl _ _)
      · intro a x hG hd hs K hK
        have h8 : a.tmps.getD 8 undef = .int .i64 (E : Int) := hs 8 (by kernel_rfl)
        have h29 : a.tmps.getD 29 undef = .bool false := hd 3 29 (by kernel_rfl)
        clear hd hs
        refine wpOp_yes rfl rfl rfl h29 ?_
        go_simp
        exact hK _ _ rfl hG (Below.refl _ _)
      · intro a x hG hd hs K hK
        have h30 : a.tmps.getD 30 undef = .int .i64 (E : Int) := hd 4 30 (by kernel_rfl)
        have h31 : a.tmps.getD 31 undef = .int .i64 (E : Int) := hd 5 31 (by kernel_rfl)
        have h29 : a.tmps.getD 29 undef = .bool false := hd 3 29 (by kernel_rfl)
        clear hd hs
        refine wpOp_yes rfl rfl rfl h29 ?_
        go_simp
        exact hK _ _ rfl hG (Below.refl _ _)
      · intro a x hG hd hs K hK
        have h29 : a.tmps.getD 29 undef = .bool false := hd 3 29 (by kernel_rfl)
        have h32 : a.tmps.getD 32 undef = .bool false := hd 6 32 (by kernel_rfl)
        clear hd hs
        refine wpOp_plain rfl rfl ?_
        go_simp
        exact hK _ _ rfl hG (Below.refl _ _)
      · intro a x hG hd hs K hK
        have h33 : a.tmps.getD 33 undef = .bool false := hd 7 33 (by kernel_rfl)
        clear hd hs
        refine wpOp_plain rfl rfl ?_
        go_simp
        exact hK _ _ rfl hG (Below.refl _ _)
      · intro a x hG hd hs K hK
        have h2 : a.tmps.getD 2 undef = .pointer (some ⟨g2, 0, none⟩) := hs 2 (by kernel_rfl)
        have h34 : a.tmps.getD 34 undef = .bool false := hd 8 34 (by kernel_rfl)
        clear hd hs
        refine wpOp_yes rfl rfl rfl h34 ?_
        refine wp_load_mid 28 (.tmp 2) rfl g2 0 h2 (ccells X) _ (i4.ext hG).range Tryd.underlying28 rfl (infoC _ HXL.out.1 HXL.out.2) ?_
        exact hK _ _ rfl hG (Below.refl _ _)
      · intro a x hG hd hs K hK
        have h35 : a.tmps.getD 35 undef = .agg (ccells X).toArray := hd 9 35 (by kernel_rfl)
        have h34 : a.tmps.getD 34 undef = .bool false := hd 8 34 (by kernel_rfl)
        clear hd hs
        refine wpOp_yes rfl rfl rfl h34 ?_
        go_simp
        refine (mayC_any X _ HXL.out.1 HXL.out.2).mono ?_
        rintro e w' ⟨rfl, hb⟩
        rw [HM.out]
        exact hK _ _ rfl (hG.trans (hb.mono hG.size)) hb
      · intro a x hG hd hs K hK
        have h2 : a.tmps.getD 2 undef = .pointer (some ⟨g2, 0, none⟩) := hs 2 (by kernel_rfl)
        have h34 : a.tmps.getD 34 undef = .bool false := hd 8 34 (by kernel_rfl)
        clear hd hs
        refine wpOp_yes rfl rfl rfl h34 ?_
        refine wp_load_mid 28 (.tmp 2) rfl g2 0 h2 (ccells X) _ (i4.ext hG).range Tryd.underlying28 rfl (infoC _ HXL.out.1 HXL.out.2) ?_
        exact hK _ _ rfl hG (Below.refl _ _)
      · intro a x hG hd hs K hK
        have h37 : a.tmps.getD 37 undef = .agg (ccells X).toArray := hd 11 37 (by kernel_rfl)
        have h34 : a.tmps.getD 34 undef = .bool false := hd 8 34 (by kernel_rfl)
        clear hd hs
        refine wpOp_yes rfl rfl rfl h34 ?_
        go_simp
        refine (rmayC_any X _ HXL.out.1 HXL.out.2).mono ?_
        rintro e w' ⟨rfl, hb⟩
        rw [HM.out]
        exact hK _ _ rfl (hG.trans (hb.mono hG.size)) hb
      · intro a x hG hd hs K hK
        have h36 : a.tmps.getD 36 undef = .bool true := hd 10 36 (by kernel_rfl)
        have h38 : a.tmps.getD 38 undef = .bool true := hd 12 38 (by kernel_rfl)
        have h34 : a.tmps.getD 34 undef = .bool false := hd 8 34 (by kernel_rfl)
        clear hd hs
        refine wpOp_yes rfl rfl rfl h34 ?_
        go_simp
        exact hK _ _ rfl hG (Below.refl _ _)
      · intro a x hG hd hs K hK
        have h34 : a.tmps.getD 34 undef = .bool false := hd 8 34 (by kernel_rfl)
        have h39 : a.tmps.getD 39 undef = .bool false := hd 13 39 (by kernel_rfl)
        clear hd hs
        refine wpOp_plain rfl rfl ?_
        go_simp
        exact hK _ _ rfl hG (Below.refl _ _)
    · intro x hG
      rintro _ rfl _ rfl _ rfl _ rfl _ rfl _ rfl _ rfl _ rfl _ rfl _ rfl _ rfl _ rfl _ rfl _ rfl _ rfl
      simp only [Act.put, List.setIfInBounds_toArray, List.set_cons_zero, List.set_cons_succ, REnd]
      try simp only [Exit.then]
      have i5 := i4.ext hG
      have c5 := c4.trans (hG.mono c4.size)
      obtain ⟨w5, rfl⟩ : ∃ w5, w5 = x := ⟨x, rfl⟩
      clear i4 k4 j4 c4 hG
      have r5 := i5.range
      go_wp2_with (refine wpList_load_at 28 (.tmp 2) rfl rfl g2 0 rfl (ccells X) _ r5 Tryd.underlying28 rfl (infoC _ HXL.out.1 HXL.out.2) ?_)
      refine (encodeC_yes X _ HGD.out HM.out (hH.ext c5)).mono ?_
      rintro e w6 ⟨s6, rfl, hbs, b6⟩
      have HS := Lib.hid hbs
      have i6 := i5.ext b6
      have c6 := c5.trans (b6.mono c5.size)
      clear r5 i5 c5 b6 hbs
      have r6 := i6.range
      go_wp2_with (refine wpList_load_at 28 (.tmp 2) rfl rfl g2 0 rfl (ccells X) _ r6 Tryd.underlying28 rfl (infoC _ HXL.out.1 HXL.out.2) ?_)
      refine (rmayC_any X _ HXL.out.1 HXL.out.2).mono ?_
      rintro e w7 ⟨rfl, b7⟩
      rw [HM.out]
      have i7 := i6.ext b7
      have c7 := c6.trans (b7.mono c6.size)
      have HS7 := Lib.hid ((HS.out.ext (Nat.le_refl _) b7).more b7.size)
      clear r6 i6 c6 b7 HS
      go_wp2_with fail
      refine (decodeC_any w7 _ _ (hH.ext c7) HS7.out).mono ?_
      rintro e w8 ⟨rfl, b8⟩
      rw [HBD.out.1, HBD.out.2]
      unfold cagg
      have i8 := i7.ext b8
      have c8 := c7.trans (b8.mono c7.size)
      have HS8 := Lib.hid ((HS7.out.ext (Nat.le_refl _) b8).more b8.size)
      clear i7 c7 b8 HS7
      go_upto_region 10 with (with_reducible refine wpList_store_new rfl 28 (.tmp 11) (.tmp 67) rfl (ccells X) rfl rfl ?_ rfl (infoC _ HXL.out.1 HXL.out.2) ccells_one ?_)
      · rw [ccells_len _ HXL.out.1 HXL.out.2]; exact Nat.le_refl 19
      generalize hW : (w8.alloc (.cells _ 28)).setCells w8.heap.size 0 _ = w9
      have k9 : Blk w9 w8.heap.size 28 (ccells X) := by rw [← hW]; exact Blk.varC rfl HXL.out.1 HXL.out.2
      have b9 : Below w8.heap.size w8 w9 := by rw [← hW]; exact below_varC
      clear hW
      have i9 := i8.ext b9
      have c9 := c8.trans (b9.mono c8.size)
      have HS9 := Lib.hid ((HS8.out.ext (Nat.le_refl _) b9).more b9.size)
      generalize w8.heap.size = g11 at *
      clear i8 c8 b9 HS8
      obtain ⟨As, cs, rfl, _, _, _⟩ := HS9.out.openD
      have hG0 : Below w9.heap.size w9 w9.drew := (Below.refl _ _).drew
      refine wp_region_list 30 [(fun y_ _ => y_ = .slice As (Ck.ckE X).length cs),
        (fun y_ _ => y_ = .string ⟨(Ck.ckE X).toArray⟩),
        (fun y_ _ => y_ = .agg (ccells X).toArray),
        (fun y_ _ => y_ = .string ⟨(Ck.ckE X).toArray⟩),
        (fun y_ _ => y_ = .bool true),
        (fun y_ _ => y_ = .bool true),
        (fun y_ _ => y_ = .int .i64 0),
        (fun y_ _ => y_ = .bool true),
        (fun y_ _ => y_ = .bool true),
        (fun y_ _ => y_ = .bool true),
        (fun y_ _ => y_ = .agg (ccells X).toArray),
        (fun y_ _ => y_ = .agg (ccells X).toArray),
        (fun y_ _ => y_ = .bool true),
        (fun y_ _ => y_ = .bool true),
        (fun y_ _ => y_ = .bool true),
        (fun y_ _ => y_ = .int .i64 0),
        (fun y_ _ => y_ = .bool true),
        (fun y_ _ => y_ = .bool true),
        (fun y_ _ => y_ = .bool true),
        (fun y_ _ => y_ = .agg (ccells X).toArray),
        (fun y_ _ => y_ = .int .i64 (X.s % 2)),
        (fun y_ _ => y_ = .pointer (some ⟨g2, 0, none⟩)),
        (fun y_ _ => y_ = .int .i64 X.s),
        (fun y_ _ => y_ = .int .i64 (X.s % 2)),
        (fun y_ _ => y_ = .bool true),
        (fun y_ _ => y_ = .bool true),
        (fun y_ _ => y_ = .bool true),
        (fun y_ _ => y_ = .bool true),
        (fun y_ _ => y_ = .bool true),
        (fun y_ _ => y_ = .bool true)]
        (fun x => Below w9.heap.size w9 x) (by kernel_rfl) rfl (by kernel_rfl) ?_ ?_ ?_ ?_
      · exact hG0
      · exact ⟨stab_eq _, stab_eq _, stab_eq _, stab_eq _, stab_eq _, stab_eq _, stab_eq _, stab_eq _, stab_eq _, stab_eq _, stab_eq _, stab_eq _, stab_eq _, stab_eq _, stab_eq _, stab_eq _, stab_eq _, stab_eq _, stab_eq _, stab_eq _, stab_eq _, stab_eq _, stab_eq _, stab_eq _, stab_eq _, stab_eq _, stab_eq _, stab_eq _, stab_eq _, stab_eq _, trivial⟩
      · refine ⟨?_, ?_, ?_, ?_, ?_, ?_, ?_, ?_, ?_, ?_, ?_, ?_, ?_, ?_, ?_, ?_, ?_, ?_, ?_, ?_, ?_, ?_, ?_, ?_, ?_, ?_, ?_, ?_, ?_, ?_, trivial⟩
        · intro a x hG hd hs K hK
          have h9 : a.tmps.getD 9 undef = .slice As (Ck.ckE X).length cs := hs 9 (by kernel_rfl)
          clear hd hs
          refine wpOp_plain rfl rfl ?_
          go_simp
          exact hK _ _ rfl hG (Below.refl _ _)
        · intro a x hG hd hs K hK
          have h69 : a.tmps.getD 69 undef = .slice As (Ck.ckE X).length cs := hd 0 69 (by kernel_rfl)
          clear hd hs
          refine wpOp_plain rfl rfl ?_
          have hst := run_string_of (P := Tryd.prog) (HS9.out.ext (Nat.le_refl _) hG) 29 9 5 Tryd.underlying29 Tryd.underlying5 Tryd.underlying9
          go_simp
          exact hK _ _ rfl hG (Below.refl _ _)
        · intro a x hG hd hs K hK
          have h2 : a.tmps.getD 2 undef = .pointer (some ⟨g2, 0, none⟩) := hs 2 (by kernel_rfl)
          clear hd hs
          refine wpOp_plain rfl rfl ?_
          refine wp_load_mid 28 (.tmp 2) rfl g2 0 h2 (ccells X) _ (i9.ext hG).range Tryd.underlying28 rfl (infoC _ HXL.out.1 HXL.out.2) ?_
          exact hK _ _ rfl hG (Below.refl _ _)
        · intro a x hG hd hs K hK
          have h71 : a.tmps.getD 71 undef = .agg (ccells X).toArray := hd 2 71 (by kernel_rfl)
          clear hd hs
          refine wpOp_plain rfl rfl ?_
          go_simp
          refine (rencodeC_any X _ HGD.out HM.out).mono ?_
          rintro e w' ⟨rfl, hb⟩
          exact hK _ _ rfl (hG.trans (hb.mono hG.size)) hb
        · intro a x hG hd hs K hK
          have h70 : a.tmps.getD 70 undef = .string ⟨(Ck.ckE X).toArray⟩ := hd 1 70 (by kernel_rfl)
          have h72 : a.tmps.getD 72 undef = .string ⟨(Ck.ckE X).toArray⟩ := hd 3 72 (by kernel_rfl)
          clear hd hs
          refine wpOp_plain rfl rfl ?_
          go_simp
          exact hK _ _ rfl hG (Below.refl _ _)
        · intro a x hG hd hs K hK
          have h73 : a.tmps.getD 73 undef = .bool true := hd 4 73 (by kernel_rfl)
          clear hd hs
          refine wpOp_plain rfl rfl ?_
          go_simp
          exact hK _ _ rfl hG (Below.refl _ _)
        · intro a x hG hd hs K hK
          have h10 : a.tmps.getD 10 undef = .int .i64 0 := hs 10 (by kernel_rfl)
          have h74 : a.tmps.getD 74 undef = .bool true := hd 5 74 (by kernel_rfl)
          clear hd hs
          refine wpOp_yes rfl rfl rfl h74 ?_
          go_simp
          exact hK _ _ rfl hG (Below.refl _ _)
        · intro a x hG hd hs K hK
          have h75 : a.tmps.getD 75 undef = .int .i64 0 := hd 6 75 (by kernel_rfl)
          have h74 : a.tmps.getD 74 undef = .bool true := hd 5 74 (by kernel_rfl)
          clear hd hs
          refine wpOp_yes rfl rfl rfl h74 ?_
          go_simp
          exact hK _ _ rfl hG (Below.refl _ _)
        · intro a x hG hd hs K hK
          have h74 : a.tmps.getD 74 undef = .bool true := hd 5 74 (by kernel_rfl)
          have h76 : a.tmps.getD 76 undef = .bool true := hd 7 76 (by kernel_rfl)
          clear hd hs
          refine wpOp_plain rfl rfl ?_
          go_simp
          exact hK _ _ rfl hG (Below.refl _ _)
        · intro a x hG hd hs K hK
          have h77 : a.tmps.getD 77 undef = .bool true := hd 8 77 (by kernel_rfl)
          clear hd hs
          refine wpOp_plain rfl rfl ?_
          go_simp
          exact hK _ _ rfl hG (Below.refl _ _)
        · intro a x hG hd hs K hK
          have h11 : a.tmps.getD 11 undef = .pointer (some ⟨g11, 0, none⟩) := hs 11 (by kernel_rfl)
          have h78 : a.tmps.getD 78 undef = .bool true := hd 9 78 (by kernel_rfl)
          clear hd hs
          refine wpOp_yes rfl rfl rfl h78 ?_
          refine wp_load_mid 28 (.tmp 11) rfl g11 0 h11 (ccells X) _ (k9.ext hG).range Tryd.underlying28 rfl (infoC _ HXL.out.1 HXL.out.2) ?_
          exact hK _ _ rfl hG (Below.refl _ _)
        · intro a x hG hd hs K hK
          have h2 : a.tmps.getD 2 undef = .pointer (some ⟨g2, 0, none⟩) := hs 2 (by kernel_rfl)
          have h78 : a.tmps.getD 78 undef = .bool true := hd 9 78 (by kernel_rfl)
          clear hd hs
          refine wpOp_yes rfl rfl rfl h78 ?_
          refine wp_load_mid 28 (.tmp 2) rfl g2 0 h2 (ccells X) _ (i9.ext hG).range Tryd.underlying28 rfl (infoC _ HXL.out.1 HXL.out.2) ?_
          exact hK _ _ rfl hG (Below.refl _ _)
        · intro a x hG hd hs K hK
          have h79 : a.tmps.getD 79 undef = .agg (ccells X).toArray := hd 10 79 (by kernel_rfl)
          have h80 : a.tmps.getD 80 undef = .agg (ccells X).toArray := hd 11 80 (by kernel_rfl)
          have h78 : a.tmps.getD 78 undef = .bool true := hd 9 78 (by kernel_rfl)
          clear hd hs
          refine wpOp_yes rfl rfl rfl h78 ?_
          refine wp_binop .eql 28 28 (.tmp 79) (.tmp 80) rfl h79 h80 eqGuardC (run_eql_ck X X HXL.out HXL.out true (by simp) _).1 ?_
          exact hK _ _ rfl hG (Below.refl _ _)
        · intro a x hG hd hs K hK
          have h78 : a.tmps.getD 78 undef = .bool true := hd 9 78 (by kernel_rfl)
          have h81 : a.tmps.getD 81 undef = .bool true := hd 12 81 (by kernel_rfl)
          clear hd hs
          refine wpOp_plain rfl rfl ?_
          go_simp
          exact hK _ _ rfl hG (Below.refl _ _)
        · intro a x hG hd hs K hK
          have h82 : a.tmps.getD 82 undef = .bool true := hd 13 82 (by kernel_rfl)
          clear hd hs
          refine wpOp_plain rfl rfl ?_
          go_simp
          exact hK _ _ rfl hG (Below.refl _ _)
        · intro a x hG hd hs K hK
          have h12 : a.tmps.getD 12 undef = .int .i64 0 := hs 12 (by kernel_rfl)
          have h83 : a.tmps.getD 83 undef = .bool true := hd 14 83 (by kernel_rfl)
          clear hd hs
          refine wpOp_yes rfl rfl rfl h83 ?_
          go_simp
          exact hK _ _ rfl hG (Below.refl _ _)
        · intro a x hG hd hs K hK
          have h84 : a.tmps.getD 84 undef = .int .i64 0 := hd 15 84 (by kernel_rfl)
          have h83 : a.tmps.getD 83 undef = .bool true := hd 14 83 (by kernel_rfl)
          clear hd hs
          refine wpOp_yes rfl rfl rfl h83 ?_
          go_simp
          exact hK _ _ rfl hG (Below.refl _ _)
        · intro a x hG hd hs K hK
          have h83 : a.tmps.getD 83 undef = .bool true := hd 14 83 (by kernel_rfl)
          have h85 : a.tmps.getD 85 undef = .bool true := hd 16 85 (by kernel_rfl)
          clear hd hs
          refine wpOp_plain rfl rfl ?_
          go_simp
          exact hK _ _ rfl hG (Below.refl _ _)
        · intro a x hG hd hs K hK
          have h86 : a.tmps.getD 86 undef = .bool true := hd 17 86 (by kernel_rfl)
          clear hd hs
          refine wpOp_plain rfl rfl ?_
          go_simp
          exact hK _ _ rfl hG (Below.refl _ _)
        · intro a x hG hd hs K hK
          have h2 : a.tmps.getD 2 undef = .pointer (some ⟨g2, 0, none⟩) := hs 2 (by kernel_rfl)
          have h87 : a.tmps.getD 87 undef = .bool true := hd 18 87 (by kernel_rfl)
          clear hd hs
          refine wpOp_yes rfl rfl rfl h87 ?_
          refine wp_load_mid 28 (.tmp 2) rfl g2 0 h2 (ccells X) _ (i9.ext hG).range Tryd.underlying28 rfl (infoC _ HXL.out.1 HXL.out.2) ?_
          exact hK _ _ rfl hG (Below.refl _ _)
        · intro a x hG hd hs K hK
          have h88 : a.tmps.getD 88 undef = .agg (ccells X).toArray := hd 19 88 (by kernel_rfl)
          have h87 : a.tmps.getD 87 undef = .bool true := hd 18 87 (by kernel_rfl)
          clear hd hs
          refine wpOp_yes rfl rfl rfl h87 ?_
          go_simp
          refine (place_any X _ HXL.out.1 HXL.out.2).mono ?_
          rintro e w' ⟨rfl, hb⟩
          rw [HPL.out]
          exact hK _ _ rfl (hG.trans (hb.mono hG.size)) hb
        · intro a x hG hd hs K hK
          have h2 : a.tmps.getD 2 undef = .pointer (some ⟨g2, 0, none⟩) := hs 2 (by kernel_rfl)
          have h87 : a.tmps.getD 87 undef = .bool true := hd 18 87 (by kernel_rfl)
          clear hd hs
          refine wpOp_yes rfl rfl rfl h87 ?_
          go_simp
          exact hK _ _ rfl hG (Below.refl _ _)
        · intro a x hG hd hs K hK
          have h90 : a.tmps.getD 90 undef = .pointer (some ⟨g2, 0, none⟩) := hd 21 90 (by kernel_rfl)
          have h87 : a.tmps.getD 87 undef = .bool true := hd 18 87 (by kernel_rfl)
          clear hd hs
          refine wpOp_yes rfl rfl rfl h87 ?_
          have x0 := (i9.ext hG).cell 0
          unfold ccells at x0
          simp only [List.getElem?_cons_zero] at x0
          go_simp
          exact hK _ _ rfl hG (Below.refl _ _)
        · intro a x hG hd hs K hK
          have h91 : a.tmps.getD 91 undef = .int .i64 X.s := hd 22 91 (by kernel_rfl)
          have h87 : a.tmps.getD 87 undef = .bool true := hd 18 87 (by kernel_rfl)
          clear hd hs
          refine wpOp_yes rfl rfl rfl h87 ?_
          have f1 : X.s.tmod 2 = X.s % 2 := Int.tmod_eq_emod_of_nonneg (by omega)
          have f2 : IntKind.i64.wrap (X.s % 2) = X.s % 2 := IntWalk.i64_in _ (by omega)
          go_simp
          exact hK _ _ rfl hG (Below.refl _ _)
        · intro a x hG hd hs K hK
          have h89 : a.tmps.getD 89 undef = .int .i64 (X.s % 2) := hd 20 89 (by kernel_rfl)
          have h92 : a.tmps.getD 92 undef = .int .i64 (X.s % 2) := hd 23 92 (by kernel_rfl)
          have h87 : a.tmps.getD 87 undef = .bool true := hd 18 87 (by kernel_rfl)
          clear hd hs
          refine wpOp_yes rfl rfl rfl h87 ?_
          go_simp
          exact hK _ _ rfl hG (Below.refl _ _)
        · intro a x hG hd hs K hK
          have h87 : a.tmps.getD 87 undef = .bool true := hd 18 87 (by kernel_rfl)
          have h93 : a.tmps.getD 93 undef = .bool true := hd 24 93 (by kernel_rfl)
          clear hd hs
          refine wpOp_plain rfl rfl ?_
          go_simp
          exact hK _ _ rfl hG (Below.refl _ _)
        · intro a x hG hd hs K hK
          have h94 : a.tmps.getD 94 undef = .bool true := hd 25 94 (by kernel_rfl)
          clear hd hs
          refine wpOp_plain rfl rfl ?_
          go_simp
          exact hK _ _ rfl hG (Below.refl _ _)
        · intro a x hG hd hs K hK
          have h95 : a.tmps.getD 95 undef = .bool true := hd 26 95 (by kernel_rfl)
          clear hd hs
          refine wpOp_yes rfl rfl rfl h95 ?_
          go_simp
          refine (awakeC_any _ (hH.ext (c9.trans (hG.mono c9.size)))).mono ?_
          rintro e w' ⟨rfl, hb⟩
          exact hK _ _ rfl (hG.trans (hb.mono hG.size)) hb
        · intro a x hG hd hs K hK
          have h95 : a.tmps.getD 95 undef = .bool true := hd 26 95 (by kernel_rfl)
          have h96 : a.tmps.getD 96 undef = .bool true := hd 27 96 (by kernel_rfl)
          clear hd hs
          refine wpOp_plain rfl rfl ?_
          go_simp
          exact hK _ _ rfl hG (Below.refl _ _)
        · intro a x hG hd hs K hK
          have h97 : a.tmps.getD 97 undef = .bool true := hd 28 97 (by kernel_rfl)
          clear hd hs
          refine wpOp_plain rfl rfl ?_
          go_simp
          exact hK _ _ rfl hG (Below.refl _ _)
      · intro x hG
        rintro _ rfl _ rfl _ rfl _ rfl _ rfl _ rfl _ rfl _ rfl _ rfl _ rfl _ rfl _ rfl _ rfl _ rfl _ rfl _ rfl _ rfl _ rfl _ rfl _ rfl _ rfl _ rfl _ rfl _ rfl _ rfl _ rfl _ rfl _ rfl _ rfl _ rfl
        simp only [Act.put, List.setIfInBounds_toArray, List.set_cons_zero, List.set_cons_succ, REnd]
        try simp only [Exit.then]
        go_wp2
        go_ret
        exact ⟨rfl, c9.trans (hG.mono c9.size)⟩

/-- What the walk gives, for every argument and every world that holds the table. -/
theorem ckptCodes_contract (H : Type) (enc : TypeId × Value → H) (W : World) (base : Nat) (args : Array Value) (ds gs : List (DataW H)) (before : List MemPlace)
    (hval : ∀ (j : Nat) t v, Tryd.f3.params[j]? = some t → args[j]? = some v → Value.okWide Tryd.prog W .any base t v)
    (hW : DataW.Whole enc Tryd.prog Tryd.f3.params.toList Rows.ckptCodesSpec.vars false W args.toList ds gs before) (hL : laidMetH Tryd.prog Rows.ckptCodesRow.laid W) :
    Calls Tryd.prog 3 args W fun e W' => ∃ v, e = .returned v ∧ Rows.ckptCodesSpec.post enc Tryd.prog Tryd.f3 false true false false W args v W' := by
  have hW' := hW
  obtain ⟨p, q, hA0, hV, hps, hfz, hnd⟩ := hW
  have hA : DataW.TrodAll enc Tryd.prog W 0 (fun _ => true) true Tryd.f3.params.toList args.toList ds p := hA0
  rw [Tryd.params3] at hA hval
  obtain ⟨v0, vs0, d0, ds0, p0, q0, hargs, rfl, rfl, h0, r0⟩ := trodAll_cons hA
  obtain ⟨v1, vs1, d1, ds1, p1, q1, rfl, rfl, rfl, h1, r1⟩ := trodAll_cons r0
  obtain ⟨rfl, rfl, rfl⟩ := trodAll_nil r1
  obtain rfl : args = #[v0, v1] := by cases args; simp_all
  obtain ⟨rfl, rfl⟩ := trodVars_none hV
  obtain ⟨zs0, hzl0, rfl, wfz0⟩ := ints_of_agg 4 cks (by kernel_rfl) (okWide_struct Tryd.underlying28 (hval 0 28 v0 rfl rfl)) (by kernel_rfl) h0
  obtain ⟨X0, g0, e0, q0, r0⟩ := ck_of_ints zs0 hzl0 wfz0
  rw [e0] at hW' ⊢
  obtain ⟨l1, b1⟩ := bs_of_trod Tryd.underlying29 Tryd.underlying5 cellsU8 (hval 1 29 v1 rfl rfl) h1
  clear hA0
  refine (ckptCodes_walk W X0 v1 l1 g0 (halves_of hL) b1).mono fun e W' ⟨he, hb⟩ => ?_
  subst he
  exact ⟨_, rfl, law_post laidOut (by rw [Tryd.params3]; decide +kernel) rfl Tryd.underlying4 rfl rfl hW' hb⟩

theorem ckptCodes_met (os : Os) : laidMet Tryd.prog Rows.ckptCodesRow.laid ((laidWorld os).forCall (fun _ _ => 0) ⟨#[], #[.agg #[.int .i64 0, .int .i64 0, .int .i64 0, .int .i64 0, .int .u32 0, .int .i64 0, .int .u32 0, .int .i64 0, .int .u32 0, .int .i64 0, .int .u32 0, .int .i64 0, .int .i64 0, .int .i64 0, .int .i64 0, .int .i64 0, .int .i64 0, .int .i64 0, .int .i64 0], .slice none 0 0], []⟩).memory :=
  laidMet_of_run' 8 (by kernel_rfl) (by kernel_rfl)
theorem ckptCodes_reads (os : Os) {H : Type} (enc : TypeId × Value → H) : ∃ places, DataW.whole enc Tryd.prog ((laidWorld os).forCall (fun _ _ => 0) ⟨#[], #[.agg #[.int .i64 0, .int .i64 0, .int .i64 0, .int .i64 0, .int .u32 0, .int .i64 0, .int .u32 0, .int .i64 0, .int .u32 0, .int .i64 0, .int .u32 0, .int .i64 0, .int .i64 0, .int .i64 0, .int .i64 0, .int .i64 0, .int .i64 0, .int .i64 0, .int .i64 0], .slice none 0 0], []⟩).memory Tryd.f3.params.toList Rows.ckptCodesSpec.vars false (#[.agg #[.int .i64 0, .int .i64 0, .int .i64 0, .int .i64 0, .int .u32 0, .int .i64 0, .int .u32 0, .int .i64 0, .int .u32 0, .int .i64 0, .int .u32 0, .int .i64 0, .int .i64 0, .int .i64 0, .int .i64 0, .int .i64 0, .int .i64 0, .int .i64 0, .int .i64 0], .slice none 0 0] : Array Value).toList 8 = some ([.agg [.lit (.int .i64 0), .lit (.int .i64 0), .lit (.int .i64 0), .agg [.agg [.lit (.int .i64 0), .lit (.int .u32 0)], .agg [.lit (.int .i64 0), .lit (.int .u32 0)], .agg [.lit (.int .i64 0), .lit (.int .u32 0)], .agg [.lit (.int .i64 0), .lit (.int .u32 0)]], .agg [.lit (.int .i64 0), .lit (.int .i64 0), .lit (.int .i64 0), .lit (.int .i64 0), .lit (.int .i64 0), .lit (.int .i64 0), .lit (.int .i64 0), .lit (.int .i64 0)]], .nil], [], places) :=
  ⟨[], by kernel_rfl⟩

set_option maxRecDepth 100000 in
theorem ckptCodes_lifted (os : Os) (started : os.Started) (H : Type) (enc : TypeId × Value → H) (F : Stop.Interp) :
    ReturnsInHanded {} Tryd.checked os 3 .any ((OpenSpec.ofChange Rows.ckptCodesSpec).preRow enc Tryd.prog Tryd.f3 Rows.ckptCodesRow.domain false Rows.ckptCodesRow.laid) (((OpenSpec.ofChange Rows.ckptCodesSpec).at F).post enc Tryd.prog Tryd.f3 false true false false) := by
  obtain ⟨places, hx⟩ := ckptCodes_reads os enc
  refine returnsInHanded_of_row (C := Tryd.checked) (s := OpenSpec.ofChange Rows.ckptCodesSpec) own started (by kernel_rfl) Tryd.func3
    (witness_row_at (enc := enc) (C := Tryd.checked) false (laidWorld os) #[.agg #[.int .i64 0, .int .i64 0, .int .i64 0, .int .i64 0, .int .u32 0, .int .i64 0, .int .u32 0, .int .i64 0, .int .u32 0, .int .i64 0, .int .u32 0, .int .i64 0, .int .i64 0, .int .i64 0, .int .i64 0, .int .i64 0, .int .i64 0, .int .i64 0, .int .i64 0], .slice none 0 0] rfl (by kernel_rfl) (by kernel_rfl) (by kernel_rfl)
      (OpenSpec.preRow_of_cond 8 hx (by kernel_rfl) (fun k hk => by cases hk) (by kernel_rfl) (ckptCodes_met os))) ?_
  intro W base args ds gs before hval hW _ _ _ hL _ _
  exact ckptCodes_contract H enc W base args ds gs before hval hW hL

theorem ckptCodes_said : Rows.CkptCodesSaid :=
  OpenClaim.holds_of_cond 3 Tryd.f3 rfl rfl rfl rfl rfl rfl rfl ⟨rfl, rfl, rfl, rfl, rfl⟩ rfl rfl rfl rfl rfl (by kernel_rfl) Tryd.func3 (by kernel_rfl)
    (of_decide_eq_true (by kernel_rfl)) (by unfold Func.isWrapper; first | (rw [if_pos (by decide +kernel)]; kernel_rfl) | (rw [if_neg (by decide +kernel)]; exact ⟨rfl, rfl⟩))
    (fun os started H enc _ F => by rw [OpenClaim.pre_eq_preRow]; exact ckptCodes_lifted os started H enc F)

theorem ckptCodes_plain (f : FuncId) (fn : Func) (hf : Tryd.pinned.checked.prog.funcNamed "haymow/haymowlaw13.CkptCodes" = some f) (hfn : Tryd.pinned.checked.prog.funcs[f]? = some fn) :
    false = Tryd.pinned.checked.prog.looks [] ∧ ∀ (j : Nat) t, fn.params[j]? = some t → Tryd.pinned.checked.prog.wantsStandIn t = false := by
  obtain rfl : f = 3 := Option.some.inj ((show Tryd.prog.funcNamed "haymow/haymowlaw13.CkptCodes" = some 3 by kernel_rfl).symm.trans hf) |>.symm
  obtain rfl : fn = Tryd.f3 := (Option.some.inj (Tryd.func3.symm.trans hfn)).symm
  refine ⟨by kernel_rfl, fun j t ht => ?_⟩
  rw [Tryd.params3] at ht
  have hall : ∀ t ∈ (Tryd.f3).params.toList, Tryd.prog.wantsStandIn t = false := by rw [Tryd.params3]; decide +kernel
  exact hall t (by rw [Tryd.params3]; exact Array.mem_toList_iff.2 (Array.mem_of_getElem? ht))

/-- THE CARD. -/
theorem ckptCodes_holds : Rows.CkptCodesCardSaid :=
  Claim7.holds_tied_plain_at .later [] _ _ _ _ ckptCodes_said (fun _ h => by cases h) (by kernel_rfl) (fun _ h => by cases h) ckptCodes_row_tie rfl ⟨rfl, rfl⟩ (by kernel_rfl) rfl ckptCodes_plain (by kernel_rfl)

end Go.Proofs.YtkkbmhlmgbepjaaDoor
