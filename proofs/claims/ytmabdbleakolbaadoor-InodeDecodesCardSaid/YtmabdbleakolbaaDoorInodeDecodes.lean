/-
  InodeDecodes: whatever octets there are, of whatever number, they are the document's inode, or refused with its error. For every input.
-/
import Derived.Test.YtmabdbleakolbaaDoorInodeQ
namespace Go.Proofs.YtmabdbleakolbaaDoor
open Go.ChangeShapes Go.WideShapes Go.ChangeAt Go.RowKit

set_option maxRecDepth 100000 in
set_option maxHeartbeats 4000000 in
theorem inodeDecodes_walk (w : World) (i : Int) (v : Value) (l : List UInt8) (hH : Halves w) (h : Bs w w.heap.size v l) :
    Calls Tryd.prog 4 #[.int .i64 i, v] w fun e w' => e = .returned (.bool true) ∧ Below w.heap.size w w' := by
  go_enter Tryd.func4, Tryd.ntmps4
  go_wp2_with fail
  refine (few_any w v _ l h).mono ?_
  rintro e w' ⟨u, rfl, h0, rfl⟩
  have hl2 : (l.take 200).length ≤ 200 := by rw [List.length_take]; omega
  clear h
  generalize l.take 200 = q at *
  have HQ := Lib.hid h0
  clear h0
  go_wp2_with fail
  refine (decode_any i w _ q hH HQ.out).mono ?_
  rintro e w1 ⟨rfl, b1⟩
  have HX := Lib.hid (inOr_len i q)
  have HXD := Lib.hid (show (if Nd.dErr i q = 0 then Nd.inOf q else Nd.In.zero) = (if Nd.dErr i q = 0 then Nd.inOf q else Nd.In.zero) from rfl)
  have HR := Lib.hid (fun W => rdecode_any i W q (by omega))
  unfold DecR at HR
  generalize (if Nd.dErr i q = 0 then Nd.inOf q else Nd.In.zero) = X at *
  generalize Nd.dErr i q = E at *
  unfold iagg at HR ⊢
  go_wp2_with (with_reducible refine wpList_store_new rfl 27 (.tmp 5) (.tmp 15) rfl (icells X) rfl rfl ?_ rfl (infoI _ HX.out) icells_one ?_)
  · rw [icells_len _ HX.out]; exact Nat.le_refl 23
  generalize hW : (w1.alloc (.cells _ 27)).setCells w1.heap.size 0 _ = w3
  have k3 : Blk w3 w1.heap.size 27 (icells X) := by rw [← hW]; exact Blk.var rfl HX.out
  have b3 : Below w1.heap.size w1 w3 := by rw [← hW]; exact below_var
  have c3 := b1.trans (b3.mono b1.size)
  clear hW b3 b1
  have hst := run_string_of (P := Tryd.prog) (HQ.out.ext (Nat.le_refl _) c3) 28 9 5 Tryd.underlying28 Tryd.underlying5 Tryd.underlying9
  rw [hst]
  clear hst
  go_wp2_with fail
  refine (HR.out _).mono ?_
  rintro e w4 ⟨rfl, b4⟩
  have k4 := k3.ext b4
  have c4 := c3.trans (b4.mono c3.size)
  clear k3 b4 c3 HR
  go_upto_region 4 with (with_reducible refine wpList_store_new rfl 27 (.tmp 7) (.tmp 22) rfl (icells X) rfl rfl ?_ rfl (infoI _ HX.out) icells_one ?_)
  · rw [icells_len _ HX.out]; exact Nat.le_refl 23
  generalize hW : (w4.alloc (.cells _ 27)).setCells w4.heap.size 0 _ = w5
  have j5 : Blk w5 w4.heap.size 27 (icells X) := by rw [← hW]; exact Blk.var rfl HX.out
  have b5 : Below w4.heap.size w4 w5 := by rw [← hW]; exact below_var
  have k5 := k4.ext b5
  have c5 := c4.trans (b5.mono c4.size)
  clear hW b5 c4 k4
  have r1 := k5.range
  have r2 := j5.range
  have hin := infoI X HX.out
  generalize w1.heap.size = g1 at *
  generalize w4.heap.size = g2 at *
  go_wp2_with (first | refine wpList_load_at 27 (.tmp 5) rfl rfl g1 0 rfl (icells X) _ r1 Tryd.underlying27 rfl hin ?_ | refine wpList_load_at 27 (.tmp 7) rfl rfl g2 0 rfl (icells X) _ r2 Tryd.underlying27 rfl hin ?_ | refine wpList_binop .eql 27 27 (.tmp 24) (.tmp 25) rfl rfl rfl rfl eqGuardI (run_eql_in X X HX.out HX.out true (by simp) _).1 ?_)
  refine (awake_any _ (hH.ext c5)).mono ?_
  rintro e w6 ⟨rfl, b6⟩
  go_wp2
  go_ret
  exact ⟨rfl, c5.trans (b6.mono c5.size)⟩

/-- What the walk gives, for every argument and every world that holds the table. -/
theorem inodeDecodes_contract (H : Type) (enc : TypeId × Value → H) (W : World) (base : Nat) (args : Array Value) (ds gs : List (DataW H)) (before : List MemPlace)
    (hval : ∀ (j : Nat) t v, Tryd.f4.params[j]? = some t → args[j]? = some v → Value.okWide Tryd.prog W .any base t v)
    (hW : DataW.Whole enc Tryd.prog Tryd.f4.params.toList Rows.inodeDecodesSpec.vars false W args.toList ds gs before) (hL : laidMetH Tryd.prog Rows.inodeDecodesRow.laid W) :
    Calls Tryd.prog 4 args W fun e W' => ∃ v, e = .returned v ∧ Rows.inodeDecodesSpec.post enc Tryd.prog Tryd.f4 false true false false W args v W' := by
  have hW' := hW
  obtain ⟨p, q, hA0, hV, hps, hfz, hnd⟩ := hW
  have hA : DataW.TrodAll enc Tryd.prog W 0 (fun _ => true) true Tryd.f4.params.toList args.toList ds p := hA0
  rw [Tryd.params4] at hA hval
  obtain ⟨v0, vs0, d0, ds0, p0, q0, hargs, rfl, rfl, h0, r0⟩ := trodAll_cons hA
  obtain ⟨v1, vs1, d1, ds1, p1, q1, rfl, rfl, rfl, h1, r1⟩ := trodAll_cons r0
  obtain ⟨rfl, rfl, rfl⟩ := trodAll_nil r1
  obtain rfl : args = #[v0, v1] := by cases args; simp_all
  obtain ⟨rfl, rfl⟩ := trodVars_none hV
  obtain ⟨z0, rfl, rfl, rfl, wf0⟩ := open_int Tryd.underlying3 (hval 0 3 v0 rfl rfl) h0
  obtain ⟨l1, b1⟩ := bs_of_trod Tryd.underlying28 Tryd.underlying5 cellsU8 (hval 1 28 v1 rfl rfl) h1
  clear hA0
  refine (inodeDecodes_walk W z0 v1 l1 (halves_of hL) b1).mono fun e W' ⟨he, hb⟩ => ?_
  subst he
  exact ⟨_, rfl, law_post laidOut (by rw [Tryd.params4]; decide +kernel) rfl Tryd.underlying4 rfl rfl hW' hb⟩

theorem inodeDecodes_met (os : Os) : laidMet Tryd.prog Rows.inodeDecodesRow.laid ((laidWorld os).forCall (fun _ _ => 0) ⟨#[], #[.int .i64 0, .slice none 0 0], []⟩).memory :=
  laidMet_of_run' 8 (by kernel_rfl) (by kernel_rfl)
theorem inodeDecodes_reads (os : Os) {H : Type} (enc : TypeId × Value → H) : ∃ places, DataW.whole enc Tryd.prog ((laidWorld os).forCall (fun _ _ => 0) ⟨#[], #[.int .i64 0, .slice none 0 0], []⟩).memory Tryd.f4.params.toList Rows.inodeDecodesSpec.vars false (#[.int .i64 0, .slice none 0 0] : Array Value).toList 8 = some ([.lit (.int .i64 0), .nil], [], places) :=
  ⟨[], by kernel_rfl⟩

set_option maxRecDepth 100000 in
theorem inodeDecodes_lifted (os : Os) (started : os.Started) (H : Type) (enc : TypeId × Value → H) (F : Stop.Interp) :
    ReturnsInHanded {} Tryd.checked os 4 .any ((OpenSpec.ofChange Rows.inodeDecodesSpec).preRow enc Tryd.prog Tryd.f4 Rows.inodeDecodesRow.domain false Rows.inodeDecodesRow.laid) (((OpenSpec.ofChange Rows.inodeDecodesSpec).at F).post enc Tryd.prog Tryd.f4 false true false false) := by
  obtain ⟨places, hx⟩ := inodeDecodes_reads os enc
  refine returnsInHanded_of_row (C := Tryd.checked) (s := OpenSpec.ofChange Rows.inodeDecodesSpec) own started (by kernel_rfl) Tryd.func4
    (witness_row_at (enc := enc) (C := Tryd.checked) false (laidWorld os) #[.int .i64 0, .slice none 0 0] rfl (by kernel_rfl) (by kernel_rfl) (by kernel_rfl)
      (OpenSpec.preRow_of_cond 8 hx (by kernel_rfl) (fun k hk => by cases hk) (by kernel_rfl) (inodeDecodes_met os))) ?_
  intro W base args ds gs before hval hW _ _ _ hL _ _
  exact inodeDecodes_contract H enc W base args ds gs before hval hW hL

theorem inodeDecodes_said : Rows.InodeDecodesSaid :=
  OpenClaim.holds_of_cond 4 Tryd.f4 rfl rfl rfl rfl rfl rfl rfl ⟨rfl, rfl, rfl, rfl, rfl⟩ rfl rfl rfl rfl rfl (by kernel_rfl) Tryd.func4 (by kernel_rfl)
    (of_decide_eq_true (by kernel_rfl)) (by unfold Func.isWrapper; first | (rw [if_pos (by decide +kernel)]; kernel_rfl) | (rw [if_neg (by decide +kernel)]; exact ⟨rfl, rfl⟩))
    (fun os started H enc _ F => by rw [OpenClaim.pre_eq_preRow]; exact inodeDecodes_lifted os started H enc F)

theorem inodeDecodes_plain (f : FuncId) (fn : Func) (hf : Tryd.pinned.checked.prog.funcNamed "haymow/haymowlaw07.InodeDecodes" = some f) (hfn : Tryd.pinned.checked.prog.funcs[f]? = some fn) :
    false = Tryd.pinned.checked.prog.looks [] ∧ ∀ (j : Nat) t, fn.params[j]? = some t → Tryd.pinned.checked.prog.wantsStandIn t = false := by
  obtain rfl : f = 4 := Option.some.inj ((show Tryd.prog.funcNamed "haymow/haymowlaw07.InodeDecodes" = some 4 by kernel_rfl).symm.trans hf) |>.symm
  obtain rfl : fn = Tryd.f4 := (Option.some.inj (Tryd.func4.symm.trans hfn)).symm
  refine ⟨by kernel_rfl, fun j t ht => ?_⟩
  rw [Tryd.params4] at ht
  have hall : ∀ t ∈ (Tryd.f4).params.toList, Tryd.prog.wantsStandIn t = false := by rw [Tryd.params4]; decide +kernel
  exact hall t (by rw [Tryd.params4]; exact Array.mem_toList_iff.2 (Array.mem_of_getElem? ht))

/-- THE CARD. -/
theorem inodeDecodes_holds : Rows.InodeDecodesCardSaid :=
  Claim7.holds_tied_plain_at .later [] _ _ _ _ inodeDecodes_said (fun _ h => by cases h) (by kernel_rfl) (fun _ h => by cases h) inodeDecodes_row_tie rfl ⟨rfl, rfl⟩ (by kernel_rfl) rfl inodeDecodes_plain (by kernel_rfl)

end Go.Proofs.YtmabdbleakolbaaDoor
