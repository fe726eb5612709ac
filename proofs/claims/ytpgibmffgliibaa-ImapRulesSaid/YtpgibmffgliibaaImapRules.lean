/-
  ImapRules: whatever is put, dropped and given in any map, and the least number that is free, is the document's, or refused with its error. For every input.
-/
import Derived.Test.YtpgibmffgliibaaImO
namespace Go.Proofs.Ytpgibmffgliibaa
open Go.ChangeShapes Go.WideShapes Go.ChangeAt Go.RowKit
open Im (Sl)

set_option maxRecDepth 100000 in
set_option maxHeartbeats 16000000 in
theorem imapRules_walk (w : World) (m : List Sl) (i a : Int) (s : Nat) (hg : Im.Good m) (hs : s < 4294967296) :
    Calls Try.prog 3 #[magg m, .int .i64 i, .agg #[.int .i64 a, .int .u32 (s : Int)]] w fun e w' => e = .returned (.bool true) ∧ Below w.heap.size w w' := by
  have HG := Lib.hid hg
  have HM := Lib.hid hg.1
  have HPL := Lib.hid (Im.good_put hg i (a, s) hs).1
  have HDL := Lib.hid (Im.good_drop hg i).1
  have HGL := Lib.hid (Im.good_give hg i).1
  clear hg hs
  unfold magg
  go_enter Try.func3, Try.ntmps3
  go_upto_region 1 with (fail)
  have km := Blk.new w 28 (mcells m).toArray
  have c := (Below.refl w.heap.size w).alloc (Nat.le_refl _) (.cells (mcells m).toArray 28)
  change Blk _ _ _ (mcells m) at km
  have hs0 : (w.alloc (.cells (mcells m).toArray 28)).heap.size = w.heap.size + 1 := World.size_alloc _ _
  generalize w.alloc (.cells (mcells m).toArray 28) = w0 at *
  obtain ⟨g3, hg0⟩ : ∃ g, g = w.heap.size := ⟨_, rfl⟩
  rw [← hg0] at km hs0 ⊢
  have kp := Blk.new w0 24 #[.int .i64 a, .int .u32 (s : Int)]
  rw [hs0] at kp
  replace km := km.alloc (.cells #[.int .i64 a, .int .u32 (s : Int)] 24)
  replace c := c.alloc c.size (.cells #[.int .i64 a, .int .u32 (s : Int)] 24)
  generalize w0.alloc (.cells #[.int .i64 a, .int .u32 (s : Int)] 24) = w1 at *
  obtain ⟨gp, hgp⟩ : ∃ g, g = g3 + 1 := ⟨_, rfl⟩
  rw [← hgp] at kp ⊢
  clear hg0 hs0 hgp
  have hr := km.range
  go_wp2_with (refine wpList_load_at 28 (.tmp 3) rfl rfl g3 0 rfl (mcells m) _ hr Try.underlying28 rfl (infoM _ HM.out) ?_)
  clear hr
  refine (free_any m _ HM.out).mono ?_
  rintro e w2 ⟨rfl, b2⟩
  replace km := km.ext b2
  replace kp := kp.ext b2
  replace c := c.trans (b2.mono c.size)
  clear b2
  have HF := Lib.hid (fun W => rfree_any m W HM.out)
  unfold FreeR at HF
  generalize Im.freeN m = N at *
  generalize Im.freeE m = E at *
  have hr := km.range
  go_wp2_with (refine wpList_load_at 28 (.tmp 3) rfl rfl g3 0 rfl (mcells m) _ hr Try.underlying28 rfl (infoM _ HM.out) ?_)
  clear hr
  refine (HF.out _).mono ?_
  rintro e w3 ⟨rfl, b3⟩
  clear HF
  replace km := km.ext b3
  replace kp := kp.ext b3
  replace c := c.trans (b3.mono c.size)
  clear b3
  have hr := km.range
  have x0 := kp.cell 0
  have x1 := kp.cell 1
  simp only [List.getElem?_cons_zero, List.getElem?_cons_succ] at x0 x1
  go_wp2_with (refine wpList_load_at 28 (.tmp 3) rfl rfl g3 0 rfl (mcells m) _ hr Try.underlying28 rfl (infoM _ HM.out) ?_)
  clear hr
  refine (put_any m i a s _ HM.out).mono ?_
  rintro e w3a ⟨rfl, b⟩
  clear x0 x1
  replace km := km.ext b
  replace kp := kp.ext b
  replace c := c.trans (b.mono c.size)
  clear b
  have HR := Lib.hid (fun W => rput12_any m i a s W HM.out)
  unfold MapR at HR
  generalize Im.putM m i (a, s) = X at *
  generalize Im.putE m i (a, s) = E1 at *
  unfold magg at HR ⊢
  have hzv := zeroIM
  go_upto_region 4 with (with_reducible refine wpList_store_new rfl 28 (.tmp 11) (.tmp 38) rfl (mcells X) rfl rfl ?_ rfl (infoM _ HPL.out) mcells_one ?_)
  · rw [mcells_len, HPL.out]; exact Nat.le_refl 120
  clear hzv
  generalize hW : (w3a.alloc (.cells _ 28)).setCells w3a.heap.size 0 _ = w3av
  have k11 : Blk w3av w3a.heap.size 28 (mcells X) := by rw [← hW]; exact Blk.varM HPL.out
  have bv : Below w3a.heap.size w3a w3av := by rw [← hW]; exact below_varM
  clear hW
  replace km := km.ext bv
  replace kp := kp.ext bv
  replace c := c.trans (bv.mono c.size)
  clear bv
  generalize w3a.heap.size = g11 at *
  have hr := km.range
  have x0 := kp.cell 0
  have x1 := kp.cell 1
  simp only [List.getElem?_cons_zero, List.getElem?_cons_succ] at x0 x1
  go_wp2_with (refine wpList_load_at 28 (.tmp 3) rfl rfl g3 0 rfl (mcells m) _ hr Try.underlying28 rfl (infoM _ HM.out) ?_)
  clear hr
  refine (HR.out _).mono ?_
  rintro e w3b ⟨rfl, b⟩
  clear x0 x1 HR
  replace km := km.ext b
  replace kp := kp.ext b
  replace k11 := k11.ext b
  replace c := c.trans (b.mono c.size)
  clear b
  have hzv := zeroIM
  go_upto_region 5 with (with_reducible refine wpList_store_new rfl 28 (.tmp 13) (.tmp 45) rfl (mcells X) rfl rfl ?_ rfl (infoM _ HPL.out) mcells_one ?_)
  · rw [mcells_len, HPL.out]; exact Nat.le_refl 120
  clear hzv
  generalize hW : (w3b.alloc (.cells _ 28)).setCells w3b.heap.size 0 _ = w3bv
  have k13 : Blk w3bv w3b.heap.size 28 (mcells X) := by rw [← hW]; exact Blk.varM HPL.out
  have bv : Below w3b.heap.size w3b w3bv := by rw [← hW]; exact below_varM
  clear hW
  replace km := km.ext bv
  replace kp := kp.ext bv
  replace k11 := k11.ext bv
  replace c := c.trans (bv.mono c.size)
  clear bv
  generalize w3b.heap.size = g13 at *
  have hr := km.range
  go_wp2_with (refine wpList_load_at 28 (.tmp 3) rfl rfl g3 0 rfl (mcells m) _ hr Try.underlying28 rfl (infoM _ HM.out) ?_)
  clear hr
  refine (drop_any m i _ HM.out).mono ?_
  rintro e w3bva ⟨rfl, b⟩
  replace km := km.ext b
  replace kp := kp.ext b
  replace k11 := k11.ext b
  replace k13 := k13.ext b
  replace c := c.trans (b.mono c.size)
  clear b
  have HR := Lib.hid (fun W => rdrop_any m i W HM.out)
  unfold MapR at HR
  generalize Im.dropM m i = Y at *
  generalize Im.dropE m i = E2 at *
  unfold magg at HR ⊢
  have hzv := zeroIM
  go_upto_region 6 with (with_reducible refine wpList_store_new rfl 28 (.tmp 15) (.tmp 51) rfl (mcells Y) rfl rfl ?_ rfl (infoM _ HDL.out) mcells_one ?_)
  · rw [mcells_len, HDL.out]; exact Nat.le_refl 120
  clear hzv
  generalize hW : (w3bva.alloc (.cells _ 28)).setCells w3bva.heap.size 0 _ = w3bvav
  have k15 : Blk w3bvav w3bva.heap.size 28 (mcells Y) := by rw [← hW]; exact Blk.varM HDL.out
  have bv : Below w3bva.heap.size w3bva w3bvav := by rw [← hW]; exact below_varM
  clear hW
  replace km := km.ext bv
  replace kp := kp.ext bv
  replace k11 := k11.ext bv
  replace k13 := k13.ext bv
  replace c := c.trans (bv.mono c.size)
  clear bv
  generalize w3bva.heap.size = g15 at *
  have hr := km.range
  go_wp2_with (refine wpList_load_at 28 (.tmp 3) rfl rfl g3 0 rfl (mcells m) _ hr Try.underlying28 rfl (infoM _ HM.out) ?_)
  clear hr
  refine (HR.out _).mono ?_
  rintro e w3bvb ⟨rfl, b⟩
  clear HR
  replace km := km.ext b
  replace kp := kp.ext b
  replace k11 := k11.ext b
  replace k13 := k13.ext b
  replace k15 := k15.ext b
  replace c := c.trans (b.mono c.size)
  clear b
  have hzv := zeroIM
  go_upto_region 7 with (with_reducible refine wpList_store_new rfl 28 (.tmp 17) (.tmp 57) rfl (mcells Y) rfl rfl ?_ rfl (infoM _ HDL.out) mcells_one ?_)
  · rw [mcells_len, HDL.out]; exact Nat.le_refl 120
  clear hzv
  generalize hW : (w3bvb.alloc (.cells _ 28)).setCells w3bvb.heap.size 0 _ = w3bvbv
  have k17 : Blk w3bvbv w3bvb.heap.size 28 (mcells Y) := by rw [← hW]; exact Blk.varM HDL.out
  have bv : Below w3bvb.heap.size w3bvb w3bvbv := by rw [← hW]; exact below_varM
  clear hW
  replace km := km.ext bv
  replace kp := kp.ext bv
  replace k11 := k11.ext bv
  replace k13 := k13.ext bv
  replace k15 := k15.ext bv
  replace c := c.trans (bv.mono c.size)
  clear bv
  generalize w3bvb.heap.size = g17 at *
  have hr := km.range
  go_wp2_with (refine wpList_load_at 28 (.tmp 3) rfl rfl g3 0 rfl (mcells m) _ hr Try.underlying28 rfl (infoM _ HM.out) ?_)
  clear hr
  refine (give_any m i _ HM.out).mono ?_
  rintro e w3bvbva ⟨rfl, b⟩
  replace km := km.ext b
  replace kp := kp.ext b
  replace k11 := k11.ext b
  replace k13 := k13.ext b
  replace k15 := k15.ext b
  replace k17 := k17.ext b
  replace c := c.trans (b.mono c.size)
  clear b
  have HR := Lib.hid (fun W => rgive_any m i W HM.out)
  unfold MapR at HR
  generalize Im.giveM m i = Z at *
  generalize Im.giveE m i = E3 at *
  unfold magg at HR ⊢
  have hzv := zeroIM
  go_upto_region 8 with (with_reducible refine wpList_store_new rfl 28 (.tmp 19) (.tmp 63) rfl (mcells Z) rfl rfl ?_ rfl (infoM _ HGL.out) mcells_one ?_)
  · rw [mcells_len, HGL.out]; exact Nat.le_refl 120
  clear hzv
  generalize hW : (w3bvbva.alloc (.cells _ 28)).setCells w3bvbva.heap.size 0 _ = w3bvbvav
  have k19 : Blk w3bvbvav w3bvbva.heap.size 28 (mcells Z) := by rw [← hW]; exact Blk.varM HGL.out
  have bv : Below w3bvbva.heap.size w3bvbva w3bvbvav := by rw [← hW]; exact below_varM
  clear hW
  replace km := km.ext bv
  replace kp := kp.ext bv
  replace k11 := k11.ext bv
  replace k13 := k13.ext bv
  replace k15 := k15.ext bv
  replace k17 := k17.ext bv
  replace c := c.trans (bv.mono c.size)
  clear bv
  generalize w3bvbva.heap.size = g19 at *
  have hr := km.range
  go_wp2_with (refine wpList_load_at 28 (.tmp 3) rfl rfl g3 0 rfl (mcells m) _ hr Try.underlying28 rfl (infoM _ HM.out) ?_)
  clear hr
  refine (HR.out _).mono ?_
  rintro e w3bvbvb ⟨rfl, b⟩
  clear HR
  replace km := km.ext b
  replace kp := kp.ext b
  replace k11 := k11.ext b
  replace k13 := k13.ext b
  replace k15 := k15.ext b
  replace k17 := k17.ext b
  replace k19 := k19.ext b
  replace c := c.trans (b.mono c.size)
  clear b
  have hzv := zeroIM
  go_upto_region 9 with (with_reducible refine wpList_store_new rfl 28 (.tmp 21) (.tmp 69) rfl (mcells Z) rfl rfl ?_ rfl (infoM _ HGL.out) mcells_one ?_)
  · rw [mcells_len, HGL.out]; exact Nat.le_refl 120
  clear hzv
  generalize hW : (w3bvbvb.alloc (.cells _ 28)).setCells w3bvbvb.heap.size 0 _ = w3bvbvbv
  have k21 : Blk w3bvbvbv w3bvbvb.heap.size 28 (mcells Z) := by rw [← hW]; exact Blk.varM HGL.out
  have bv : Below w3bvbvb.heap.size w3bvbvb w3bvbvbv := by rw [← hW]; exact below_varM
  clear hW
  replace km := km.ext bv
  replace kp := kp.ext bv
  replace k11 := k11.ext bv
  replace k13 := k13.ext bv
  replace k15 := k15.ext bv
  replace k17 := k17.ext bv
  replace k19 := k19.ext bv
  replace c := c.trans (bv.mono c.size)
  clear bv
  generalize w3bvbvb.heap.size = g21 at *
  have r11 := k11.range
  have r13 := k13.range
  have r15 := k15.range
  have r17 := k17.range
  have r19 := k19.range
  have r21 := k21.range
  go_wp2_with (first | refine wpList_load_at 28 (.tmp 11) rfl rfl g11 0 rfl (mcells X) _ r11 Try.underlying28 rfl (infoM _ HPL.out) ?_ | refine wpList_load_at 28 (.tmp 13) rfl rfl g13 0 rfl (mcells X) _ r13 Try.underlying28 rfl (infoM _ HPL.out) ?_ | refine wpList_load_at 28 (.tmp 15) rfl rfl g15 0 rfl (mcells Y) _ r15 Try.underlying28 rfl (infoM _ HDL.out) ?_ | refine wpList_load_at 28 (.tmp 17) rfl rfl g17 0 rfl (mcells Y) _ r17 Try.underlying28 rfl (infoM _ HDL.out) ?_ | refine wpList_load_at 28 (.tmp 19) rfl rfl g19 0 rfl (mcells Z) _ r19 Try.underlying28 rfl (infoM _ HGL.out) ?_ | refine wpList_load_at 28 (.tmp 21) rfl rfl g21 0 rfl (mcells Z) _ r21 Try.underlying28 rfl (infoM _ HGL.out) ?_ | refine wpList_binop .eql 28 28 (.tmp 80) (.tmp 81) rfl rfl rfl rfl eqGuardM (run_eql_im X X HPL.out HPL.out true (by simp) _).1 ?_ | refine wpList_binop .eql 28 28 (.tmp 90) (.tmp 91) rfl rfl rfl rfl eqGuardM (run_eql_im Y Y HDL.out HDL.out true (by simp) _).1 ?_ | refine wpList_binop .eql 28 28 (.tmp 100) (.tmp 101) rfl rfl rfl rfl eqGuardM (run_eql_im Z Z HGL.out HGL.out true (by simp) _).1 ?_)
  refine (awakeM_any _).mono ?_
  rintro e w9 ⟨rfl, b9⟩
  go_wp2
  go_ret
  exact ⟨rfl, c.trans (b9.mono c.size)⟩

/-- What the walk gives, for every argument and every world that holds the table. -/
theorem imapRules_contract (H : Type) (enc : TypeId × Value → H) (W : World) (base : Nat) (args : Array Value) (ds gs : List (DataW H)) (before : List MemPlace)
    (hval : ∀ (j : Nat) t v, Try.f3.params[j]? = some t → args[j]? = some v → Value.okWide Try.prog W .any base t v)
    (hW : DataW.Whole enc Try.prog Try.f3.params.toList Rows.imapRulesSpec.vars false W args.toList ds gs before) :
    Calls Try.prog 3 args W fun e W' => ∃ v, e = .returned v ∧ Rows.imapRulesSpec.post enc Try.prog Try.f3 false true false false W args v W' := by
  have hW' := hW
  obtain ⟨p, q, hA0, hV, hps, hfz, hnd⟩ := hW
  have hA : DataW.TrodAll enc Try.prog W 0 (fun _ => true) true Try.f3.params.toList args.toList ds p := hA0
  rw [Try.params3] at hA hval
  obtain ⟨v0, vs0, d0, ds0, p0, q0, hargs, rfl, rfl, h0, r0⟩ := trodAll_cons hA
  obtain ⟨v1, vs1, d1, ds1, p1, q1, rfl, rfl, rfl, h1, r1⟩ := trodAll_cons r0
  obtain ⟨v2, vs2, d2, ds2, p2, q2, rfl, rfl, rfl, h2, r2⟩ := trodAll_cons r1
  obtain ⟨rfl, rfl, rfl⟩ := trodAll_nil r2
  obtain rfl : args = #[v0, v1, v2] := by cases args; simp_all
  obtain ⟨rfl, rfl⟩ := trodVars_none hV
  obtain ⟨zs0, hzl0, rfl, wfz0⟩ := ints_of_agg 4 (imk 40) (by kernel_rfl) (okWide_array Try.underlying28 (hval 0 28 v0 rfl rfl)) (by kernel_rfl) h0
  obtain ⟨X0, g0, e0⟩ := im_of_ints zs0 hzl0 wfz0
  rw [e0] at hW' ⊢
  obtain ⟨z1, rfl, rfl, rfl, wf1⟩ := open_int Try.underlying3 (hval 1 3 v1 rfl rfl) h1
  obtain ⟨zs2, hzl2, rfl, wfz2⟩ := ints_of_agg 3 [.i64, .u32] (by kernel_rfl) (okWide_struct Try.underlying24 (hval 2 24 v2 rfl rfl)) (by kernel_rfl) h2
  obtain ⟨za2, zb2, rfl⟩ : ∃ a b, zs2 = [a, b] := by
    match zs2, hzl2 with
    | [a, b], _ => exact ⟨a, b, rfl⟩
  have u2 := wf_u32 (wfz2 1 .u32 zb2 rfl rfl)
  obtain ⟨n2, rfl⟩ := Int.eq_ofNat_of_zero_le u2.1
  clear hA0
  refine (imapRules_walk W X0 z1 za2 n2 g0 (by omega)).mono fun e W' ⟨he, hb⟩ => ?_
  subst he
  exact ⟨_, rfl, law_post laidOut (by rw [Try.params3]; decide +kernel) rfl Try.underlying4 rfl rfl hW' hb⟩

set_option maxRecDepth 100000 in
theorem imapRules_lifted (os : Os) (started : os.Started) (H : Type) (enc : TypeId × Value → H) :
    ReturnsInHanded {} Try.checked os 3 .any (Rows.imapRulesSpec.pre6 enc Try.prog Try.f3 Rows.imapRulesRow.domain false) (Rows.imapRulesSpec.post enc Try.prog Try.f3 false true false false) := by
  refine returnsInHanded_of_change (C := Try.checked) own started (by kernel_rfl) Try.func3
    (ChangeSpec.witness6 (enc := enc) (C := Try.checked) false ⟨#[], #[.agg #[.int .i64 0, .int .u32 0, .int .i64 0, .int .i64 0, .int .u32 0, .int .i64 0, .int .i64 0, .int .u32 0, .int .i64 0, .int .i64 0, .int .u32 0, .int .i64 0, .int .i64 0, .int .u32 0, .int .i64 0, .int .i64 0, .int .u32 0, .int .i64 0, .int .i64 0, .int .u32 0, .int .i64 0, .int .i64 0, .int .u32 0, .int .i64 0, .int .i64 0, .int .u32 0, .int .i64 0, .int .i64 0, .int .u32 0, .int .i64 0, .int .i64 0, .int .u32 0, .int .i64 0, .int .i64 0, .int .u32 0, .int .i64 0, .int .i64 0, .int .u32 0, .int .i64 0, .int .i64 0, .int .u32 0, .int .i64 0, .int .i64 0, .int .u32 0, .int .i64 0, .int .i64 0, .int .u32 0, .int .i64 0, .int .i64 0, .int .u32 0, .int .i64 0, .int .i64 0, .int .u32 0, .int .i64 0, .int .i64 0, .int .u32 0, .int .i64 0, .int .i64 0, .int .u32 0, .int .i64 0, .int .i64 0, .int .u32 0, .int .i64 0, .int .i64 0, .int .u32 0, .int .i64 0, .int .i64 0, .int .u32 0, .int .i64 0, .int .i64 0, .int .u32 0, .int .i64 0, .int .i64 0, .int .u32 0, .int .i64 0, .int .i64 0, .int .u32 0, .int .i64 0, .int .i64 0, .int .u32 0, .int .i64 0, .int .i64 0, .int .u32 0, .int .i64 0, .int .i64 0, .int .u32 0, .int .i64 0, .int .i64 0, .int .u32 0, .int .i64 0, .int .i64 0, .int .u32 0, .int .i64 0, .int .i64 0, .int .u32 0, .int .i64 0, .int .i64 0, .int .u32 0, .int .i64 0, .int .i64 0, .int .u32 0, .int .i64 0, .int .i64 0, .int .u32 0, .int .i64 0, .int .i64 0, .int .u32 0, .int .i64 0, .int .i64 0, .int .u32 0, .int .i64 0, .int .i64 0, .int .u32 0, .int .i64 0, .int .i64 0, .int .u32 0, .int .i64 0, .int .i64 0, .int .u32 0, .int .i64 0], .int .i64 0, .agg #[.int .i64 0, .int .u32 0]], []⟩ 8 (by kernel_rfl) (by kernel_rfl) (by kernel_rfl) (by kernel_rfl)) ?_
  intro W base args ds gs before hval hW _ _
  exact imapRules_contract H enc W base args ds gs before hval hW

theorem imapRules_holds : Rows.ImapRulesSaid :=
  OpenClaim.holds_of_wide 3 Try.f3 rfl rfl rfl rfl rfl rfl rfl ⟨rfl, rfl, rfl, rfl, rfl⟩ rfl rfl rfl rfl rfl (by kernel_rfl) Try.func3 (by kernel_rfl)
    (of_decide_eq_true (by kernel_rfl)) (by unfold Func.isWrapper; first | (rw [if_pos (by decide +kernel)]; kernel_rfl) | (rw [if_neg (by decide +kernel)]; exact ⟨rfl, rfl⟩))
    (fun os started H enc _ => imapRules_lifted os started H enc)

end Go.Proofs.Ytpgibmffgliibaa
