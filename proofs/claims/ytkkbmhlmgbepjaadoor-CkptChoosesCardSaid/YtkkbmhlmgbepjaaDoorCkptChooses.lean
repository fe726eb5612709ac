/-
  CkptChooses: of whatever two places have, the checkpoint that counts is the document's, or there is none. For every input.
-/
import Derived.Test.YtkkbmhlmgbepjaaDoorCkL
namespace Go.Proofs.YtkkbmhlmgbepjaaDoor
open Go.ChangeShapes Go.WideShapes Go.ChangeAt Go.RowKit

set_option maxRecDepth 100000 in
set_option maxHeartbeats 4000000 in
theorem ckptChooses_walk (w : World) (va vb : Value) (a b : List UInt8) (hH : Halves w) (ha : Bs w w.heap.size va a) (hb : Bs w w.heap.size vb b) :
    Calls Tryd.prog 4 #[va, vb] w fun e w' => e = .returned (.bool true) ∧ Below w.heap.size w w' := by
  go_enter Tryd.func4, Tryd.ntmps4
  go_wp2_with fail
  refine (few_any w va _ a ha).mono ?_
  rintro e w' ⟨u1, rfl, h1, rfl⟩
  have hl1 : (a.take 200).length ≤ 200 := by rw [List.length_take]; omega
  clear ha
  generalize a.take 200 = p at *
  have HP := Lib.hid h1
  clear h1
  go_wp2_with fail
  refine (few_any w vb _ b hb).mono ?_
  rintro e w' ⟨u2, rfl, h2, rfl⟩
  have hl2 : (b.take 200).length ≤ 200 := by rw [List.length_take]; omega
  clear hb
  generalize b.take 200 = q at *
  have HQ := Lib.hid h2
  clear h2
  go_wp2_with fail
  refine (chooseC_any w u1 u2 p q hH HP.out HQ.out).mono ?_
  rintro e w1 ⟨rfl, b1⟩
  have HLX := Lib.hid (chs_len p q 2)
  have HR := Lib.hid (fun W => rchooseC_any W p q (by omega) (by omega))
  unfold RChoR at HR
  generalize chs p q 2 = X at *
  generalize hE : (if X.s = 0 then (6 : Int) else 0) = E at *
  have HE := Lib.hid hE
  obtain ⟨r, hr⟩ : ∃ r, r = !decide (X.s = 0) := ⟨_, rfl⟩
  rw [← hr] at HR
  have HRR := Lib.hid hr
  clear hE hr
  unfold cagg at HR ⊢
  go_upto_region 3 with (with_reducible refine wpList_store_new rfl 28 (.tmp 5) (.tmp 17) rfl (ccells X) rfl rfl ?_ rfl (infoC _ HLX.out.1 HLX.out.2) ccells_one ?_)
  · rw [ccells_len _ HLX.out.1 HLX.out.2]; exact Nat.le_refl 19
  generalize hW : (w1.alloc (.cells _ 28)).setCells w1.heap.size 0 _ = w2
  have k2 : Blk w2 w1.heap.size 28 (ccells X) := by rw [← hW]; exact Blk.varC rfl HLX.out.1 HLX.out.2
  have b2 : Below w1.heap.size w1 w2 := by rw [← hW]; exact below_varC
  clear hW
  have c2 := b1.trans (b2.mono b1.size)
  generalize w1.heap.size = g5 at *
  clear b1 b2
  have hs1 := run_string_of (P := Tryd.prog) (HP.out.ext (Nat.le_refl _) c2) 29 9 5 Tryd.underlying29 Tryd.underlying5 Tryd.underlying9
  have hs2 := run_string_of (P := Tryd.prog) (HQ.out.ext (Nat.le_refl _) c2) 29 9 5 Tryd.underlying29 Tryd.underlying5 Tryd.underlying9
  go_wp2_with fail
  clear hs1 hs2
  refine (HR.out _).mono ?_
  rintro e w3 ⟨rfl, b3⟩
  have k3 := k2.ext b3
  have c3 := c2.trans (b3.mono c2.size)
  clear k2 c2 b3 HR
  go_upto_region 4 with (with_reducible refine wpList_store_new rfl 28 (.tmp 7) (.tmp 25) rfl (ccells X) rfl rfl ?_ rfl (infoC _ HLX.out.1 HLX.out.2) ccells_one ?_)
  · rw [ccells_len _ HLX.out.1 HLX.out.2]; exact Nat.le_refl 19
  generalize hW : (w3.alloc (.cells _ 28)).setCells w3.heap.size 0 _ = w4
  have j4 : Blk w4 w3.heap.size 28 (ccells X) := by rw [← hW]; exact Blk.varC rfl HLX.out.1 HLX.out.2
  have b4 : Below w3.heap.size w3 w4 := by rw [← hW]; exact below_varC
  clear hW
  have k4 := k3.ext b4
  have c4 := c3.trans (b4.mono c3.size)
  generalize w3.heap.size = g7 at *
  clear k3 c3 b4
  have r1 := k4.range
  have r2 := j4.range
  by_cases hs : X.s = 0
  · obtain rfl : E = 6 := by rw [← HE.out, if_pos hs]
    obtain rfl : r = false := by rw [HRR.out, decide_eq_true hs]; rfl
    clear hs
    go_wp2_with (first | refine wpList_load_at 28 (.tmp 5) rfl rfl g5 0 rfl (ccells X) _ r1 Tryd.underlying28 rfl (infoC _ HLX.out.1 HLX.out.2) ?_ | refine wpList_load_at 28 (.tmp 7) rfl rfl g7 0 rfl (ccells X) _ r2 Tryd.underlying28 rfl (infoC _ HLX.out.1 HLX.out.2) ?_ | refine wpList_binop .eql 28 28 (.tmp 27) (.tmp 28) rfl rfl rfl rfl eqGuardC (run_eql_ck X X HLX.out HLX.out true (by simp) _).1 ?_)
    refine (awakeC_any _ (hH.ext c4)).mono ?_
    rintro e w6 ⟨rfl, b6⟩
    go_wp2
    go_ret
    exact ⟨rfl, c4.trans (b6.mono c4.size)⟩
  · obtain rfl : E = 0 := by rw [← HE.out, if_neg hs]
    obtain rfl : r = true := by rw [HRR.out, decide_eq_false hs]; rfl
    clear hs
    go_wp2_with (first | refine wpList_load_at 28 (.tmp 5) rfl rfl g5 0 rfl (ccells X) _ r1 Tryd.underlying28 rfl (infoC _ HLX.out.1 HLX.out.2) ?_ | refine wpList_load_at 28 (.tmp 7) rfl rfl g7 0 rfl (ccells X) _ r2 Tryd.underlying28 rfl (infoC _ HLX.out.1 HLX.out.2) ?_ | refine wpList_binop .eql 28 28 (.tmp 27) (.tmp 28) rfl rfl rfl rfl eqGuardC (run_eql_ck X X HLX.out HLX.out true (by simp) _).1 ?_)
    refine (awakeC_any _ (hH.ext c4)).mono ?_
    rintro e w6 ⟨rfl, b6⟩
    go_wp2
    go_ret
    exact ⟨rfl, c4.trans (b6.mono c4.size)⟩

/-- What the walk gives, for every argument and every world that holds the table. -/
theorem ckptChooses_contract (H : Type) (enc : TypeId × Value → H) (W : World) (base : Nat) (args : Array Value) (ds gs : List (DataW H)) (before : List MemPlace)
    (hval : ∀ (j : Nat) t v, Tryd.f4.params[j]? = some t → args[j]? = some v → Value.okWide Tryd.prog W .any base t v)
    (hW : DataW.Whole enc Tryd.prog Tryd.f4.params.toList Rows.ckptChoosesSpec.vars false W args.toList ds gs before) (hL : laidMetH Tryd.prog Rows.ckptChoosesRow.laid W) :
    Calls Tryd.prog 4 args W fun e W' => ∃ v, e = .returned v ∧ Rows.ckptChoosesSpec.post enc Tryd.prog Tryd.f4 false true false false W args v W' := by
  have hW' := hW
  obtain ⟨p, q, hA0, hV, hps, hfz, hnd⟩ := hW
  have hA : DataW.TrodAll enc Tryd.prog W 0 (fun _ => true) true Tryd.f4.params.toList args.toList ds p := hA0
  rw [Tryd.params4] at hA hval
  obtain ⟨v0, vs0, d0, ds0, p0, q0, hargs, rfl, rfl, h0, r0⟩ := trodAll_cons hA
  obtain ⟨v1, vs1, d1, ds1, p1, q1, rfl, rfl, rfl, h1, r1⟩ := trodAll_cons r0
  obtain ⟨rfl, rfl, rfl⟩ := trodAll_nil r1
  obtain rfl : args = #[v0, v1] := by cases args; simp_all
  obtain ⟨rfl, rfl⟩ := trodVars_none hV
  obtain ⟨l0, b0⟩ := bs_of_trod Tryd.underlying29 Tryd.underlying5 cellsU8 (hval 0 29 v0 rfl rfl) h0
  obtain ⟨l1, b1⟩ := bs_of_trod Tryd.underlying29 Tryd.underlying5 cellsU8 (hval 1 29 v1 rfl rfl) h1
  clear hA0
  refine (ckptChooses_walk W v0 v1 l0 l1 (halves_of hL) b0 b1).mono fun e W' ⟨he, hb⟩ => ?_
  subst he
  exact ⟨_, rfl, law_post laidOut (by rw [Tryd.params4]; decide +kernel) rfl Tryd.underlying4 rfl rfl hW' hb⟩

theorem ckptChooses_met (os : Os) : laidMet Tryd.prog Rows.ckptChoosesRow.laid ((laidWorld os).forCall (fun _ _ => 0) ⟨#[], #[.slice none 0 0, .slice none 0 0], []⟩).memory :=
  laidMet_of_run' 8 (by kernel_rfl) (by kernel_rfl)
theorem ckptChooses_reads (os : Os) {H : Type} (enc : TypeId × Value → H) : ∃ places, DataW.whole enc Tryd.prog ((laidWorld os).forCall (fun _ _ => 0) ⟨#[], #[.slice none 0 0, .slice none 0 0], []⟩).memory Tryd.f4.params.toList Rows.ckptChoosesSpec.vars false (#[.slice none 0 0, .slice none 0 0] : Array Value).toList 8 = some ([.nil, .nil], [], places) :=
  ⟨[], by kernel_rfl⟩

set_option maxRecDepth 100000 in
theorem ckptChooses_lifted (os : Os) (started : os.Started) (H : Type) (enc : TypeId × Value → H) (F : Stop.Interp) :
    ReturnsInHanded {} Tryd.checked os 4 .any ((OpenSpec.ofChange Rows.ckptChoosesSpec).preRow enc Tryd.prog Tryd.f4 Rows.ckptChoosesRow.domain false Rows.ckptChoosesRow.laid) (((OpenSpec.ofChange Rows.ckptChoosesSpec).at F).post enc Tryd.prog Tryd.f4 false true false false) := by
  obtain ⟨places, hx⟩ := ckptChooses_reads os enc
  refine returnsInHanded_of_row (C := Tryd.checked) (s := OpenSpec.ofChange Rows.ckptChoosesSpec) own started (by kernel_rfl) Tryd.func4
    (witness_row_at (enc := enc) (C := Tryd.checked) false (laidWorld os) #[.slice none 0 0, .slice none 0 0] rfl (by kernel_rfl) (by kernel_rfl) (by kernel_rfl)
      (OpenSpec.preRow_of_cond 8 hx (by kernel_rfl) (fun k hk => by cases hk) (by kernel_rfl) (ckptChooses_met os))) ?_
  intro W base args ds gs before hval hW _ _ _ hL _ _
  exact ckptChooses_contract H enc W base args ds gs before hval hW hL

theorem ckptChooses_said : Rows.CkptChoosesSaid :=
  OpenClaim.holds_of_cond 4 Tryd.f4 rfl rfl rfl rfl rfl rfl rfl ⟨rfl, rfl, rfl, rfl, rfl⟩ rfl rfl rfl rfl rfl (by kernel_rfl) Tryd.func4 (by kernel_rfl)
    (of_decide_eq_true (by kernel_rfl)) (by unfold Func.isWrapper; first | (rw [if_pos (by decide +kernel)]; kernel_rfl) | (rw [if_neg (by decide +kernel)]; exact ⟨rfl, rfl⟩))
    (fun os started H enc _ F => by rw [OpenClaim.pre_eq_preRow]; exact ckptChooses_lifted os started H enc F)

theorem ckptChooses_plain (f : FuncId) (fn : Func) (hf : Tryd.pinned.checked.prog.funcNamed "haymow/haymowlaw13.CkptChooses" = some f) (hfn : Tryd.pinned.checked.prog.funcs[f]? = some fn) :
    false = Tryd.pinned.checked.prog.looks [] ∧ ∀ (j : Nat) t, fn.params[j]? = some t → Tryd.pinned.checked.prog.wantsStandIn t = false := by
  obtain rfl : f = 4 := Option.some.inj ((show Tryd.prog.funcNamed "haymow/haymowlaw13.CkptChooses" = some 4 by kernel_rfl).symm.trans hf) |>.symm
  obtain rfl : fn = Tryd.f4 := (Option.some.inj (Tryd.func4.symm.trans hfn)).symm
  refine ⟨by kernel_rfl, fun j t ht => ?_⟩
  rw [Tryd.params4] at ht
  have hall : ∀ t ∈ (Tryd.f4).params.toList, Tryd.prog.wantsStandIn t = false := by rw [Tryd.params4]; decide +kernel
  exact hall t (by rw [Tryd.params4]; exact Array.mem_toList_iff.2 (Array.mem_of_getElem? ht))

/-- THE CARD. -/
theorem ckptChooses_holds : Rows.CkptChoosesCardSaid :=
  Claim7.holds_tied_plain_at .later [] _ _ _ _ ckptChooses_said (fun _ h => by cases h) (by kernel_rfl) (fun _ h => by cases h) ckptChooses_row_tie rfl ⟨rfl, rfl⟩ (by kernel_rfl) rfl ckptChooses_plain (by kernel_rfl)

end Go.Proofs.YtkkbmhlmgbepjaaDoor
