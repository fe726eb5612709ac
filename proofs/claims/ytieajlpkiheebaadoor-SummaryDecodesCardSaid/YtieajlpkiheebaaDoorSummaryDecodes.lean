/-
  SummaryDecodes: whatever octets there are are the document's part, or refused with its error. For every input.
-/
import Derived.Test.YtieajlpkiheebaaDoorSumL
namespace Go.Proofs.YtieajlpkiheebaaDoor
open Go.ChangeShapes Go.WideShapes Go.ChangeAt Go.RowKit

set_option maxRecDepth 100000 in
set_option maxHeartbeats 4000000 in
theorem summaryDecodes_walk (w : World) (v : Value) (l : List UInt8) (hv : Bs w w.heap.size v l) (hH : Halves w) :
    Calls Tryd.prog 4 #[v] w fun e w' => e = .returned (.bool true) ∧ Below w.heap.size w w' := by
  obtain ⟨A, c, rfl, hc, hm, _⟩ := hv.open_
  have HV := Lib.hid hv
  clear hv
  go_enter Tryd.func4, Tryd.ntmps4
  go_upto_if 9 with (fail)
  go_cut [0] (fun s wx => w = wx ∧ ∃ q : List UInt8, s = .slice A q.length c ∧ q.length ≤ 200 ∧ Hid (Bs w w.heap.size (.slice A q.length c) q))
  case first =>
    by_cases h20 : 200 < l.length
    · have g1 : (200 : Int) < (l.length : Int) := by omega
      have g2 : (200 : Int) ≤ c := by omega
      have g3 : (200 : Nat) ≤ c := by omega
      have HH := Lib.hid (HV.out.head (k := 200) (by omega))
      have hl : (l.take 200).length = 200 := by rw [List.length_take]; omega
      have HL := Lib.hid hl
      clear hl
      go_wp2
      go_meet
      exact ⟨rfl, l.take 200, by rw [HL.out], by rw [HL.out]; omega, by rw [HL.out]; exact HH⟩
    · have g1 : ¬ (200 : Int) < (l.length : Int) := by omega
      go_wp2
      go_meet
      exact ⟨rfl, l, rfl, by omega, HV⟩
  obtain ⟨rfl, q, rfl, hq, HQ⟩ := hcut
  clear HV
  go_wp2_with fail
  refine (decodeS_any w _ q hH HQ.out).mono ?_
  rintro e w1 ⟨u1, rfl, hE1, b1⟩
  obtain ⟨A1, c1, rfl, _⟩ := hE1.open_
  have HE1 := Lib.hid hE1
  have HS := Lib.hid (show sameB (decP q) (decP q) = true by unfold sameB; simp)
  generalize hP : decP q = P at *
  have HP := Lib.hid hP
  clear hE1 hP
  obtain ⟨s, n, e, pl⟩ := P
  dsimp only at HE1 ⊢
  generalize hn : Sm.smErr q = er at *
  have HN := Lib.hid hn
  clear hn
  have k3 := Blk.new w1 24 #[.int .i64 s, .int .i64 n, .bool e, .slice A1 pl.length c1]
  have x2 := (Below.refl w1.heap.size w1).alloc (Nat.le_refl _) (.cells #[.int .i64 s, .int .i64 n, .bool e, .slice A1 pl.length c1] 24)
  have hst := run_string_of (P := Tryd.prog) (HQ.out.ext (Nat.le_refl _) (b1.trans (x2.mono b1.size))) 26 9 5 Tryd.underlying26 Tryd.underlying5 Tryd.underlying9
  go_wp2_with fail
  obtain ⟨w2, hw2⟩ : ∃ w2, w1.alloc (.cells #[.int .i64 s, .int .i64 n, .bool e, .slice A1 pl.length c1] 24) = w2 := ⟨_, rfl⟩
  rw [hw2] at k3 x2 ⊢
  clear hw2 hst
  refine (rdecodeS_any w2 q (by omega)).mono ?_
  rintro e2 w3 ⟨u2, rfl, hE2, b3⟩
  rw [HP.out, HN.out] at *
  dsimp only at hE2 ⊢
  obtain ⟨A2, c2, rfl, _⟩ := hE2.open_
  have HE2 := Lib.hid hE2
  have x3 := x2.trans (b3.mono x2.size)
  have k3' := k3.ext b3
  have hg3 := k3'.lt
  have p0 := k3'.cell 0
  have p1 := k3'.cell 1
  have p2 := k3'.cell 2
  have p3 := k3'.cell 3
  clear k3 b3 x2 hE2 k3'
  generalize w1.heap.size = g3 at hg3 p0 p1 p2 p3 ⊢
  go_wp2_with fail
  have x4 := x3.alloc x3.size (.cells #[.int .i64 s, .int .i64 n, .bool e, .slice A2 pl.length c2] 24)
  have y4 := (Below.refl w3.heap.size w3).alloc (Nat.le_refl _) (.cells #[.int .i64 s, .int .i64 n, .bool e, .slice A2 pl.length c2] 24)
  have c4 := b1.trans (x4.mono b1.size)
  refine (rsameS_any s n s n e e _ _ pl pl _ ((HE1.out.below x4).more x4.size) ((HE2.out.below y4).more y4.size)).mono ?_
  rintro e5 w5 ⟨rfl, b5⟩
  rw [HS.out]
  have c5 := c4.trans (b5.mono c4.size)
  clear x3 x4 y4 c4 b5 b1 p0 p1 p2 p3 hg3
  go_wp2_with fail
  refine (awakeS_any w5 (hH.ext c5)).mono ?_
  rintro e6 w6 ⟨rfl, b6⟩
  go_wp2
  go_ret
  exact ⟨rfl, c5.trans (b6.mono c5.size)⟩

/-- What the walk gives, for every argument and every world that holds the table. -/
theorem summaryDecodes_contract (H : Type) (enc : TypeId × Value → H) (W : World) (base : Nat) (args : Array Value) (ds gs : List (DataW H)) (before : List MemPlace)
    (hval : ∀ (j : Nat) t v, Tryd.f4.params[j]? = some t → args[j]? = some v → Value.okWide Tryd.prog W .any base t v)
    (hW : DataW.Whole enc Tryd.prog Tryd.f4.params.toList Rows.summaryDecodesSpec.vars false W args.toList ds gs before) (hL : laidMetH Tryd.prog Rows.summaryDecodesRow.laid W) :
    Calls Tryd.prog 4 args W fun e W' => ∃ v, e = .returned v ∧ Rows.summaryDecodesSpec.post enc Tryd.prog Tryd.f4 false true false false W args v W' := by
  have hW' := hW
  obtain ⟨p, q, hA0, hV, hps, hfz, hnd⟩ := hW
  have hA : DataW.TrodAll enc Tryd.prog W 0 (fun _ => true) true Tryd.f4.params.toList args.toList ds p := hA0
  rw [Tryd.params4] at hA hval
  obtain ⟨v0, vs0, d0, ds0, p0, q0, hargs, rfl, rfl, h0, r0⟩ := trodAll_cons hA
  obtain ⟨rfl, rfl, rfl⟩ := trodAll_nil r0
  obtain rfl : args = #[v0] := by cases args; simp_all
  obtain ⟨rfl, rfl⟩ := trodVars_none hV
  obtain ⟨l0, b0⟩ := bs_of_trod Tryd.underlying26 Tryd.underlying5 cellsU8 (hval 0 26 v0 rfl rfl) h0
  clear hA0
  refine (summaryDecodes_walk W v0 l0 b0 (halves_of hL)).mono fun e W' ⟨he, hb⟩ => ?_
  subst he
  exact ⟨_, rfl, law_post laidOut (by rw [Tryd.params4]; decide +kernel) rfl Tryd.underlying4 rfl rfl hW' hb⟩

theorem summaryDecodes_met (os : Os) : laidMet Tryd.prog Rows.summaryDecodesRow.laid ((laidWorld os).forCall (fun _ _ => 0) ⟨#[], #[.slice none 0 0], []⟩).memory :=
  laidMet_of_run' 8 (by kernel_rfl) (by kernel_rfl)
theorem summaryDecodes_reads (os : Os) {H : Type} (enc : TypeId × Value → H) : ∃ places, DataW.whole enc Tryd.prog ((laidWorld os).forCall (fun _ _ => 0) ⟨#[], #[.slice none 0 0], []⟩).memory Tryd.f4.params.toList Rows.summaryDecodesSpec.vars false (#[.slice none 0 0] : Array Value).toList 8 = some ([.nil], [], places) :=
  ⟨[], by kernel_rfl⟩

set_option maxRecDepth 100000 in
theorem summaryDecodes_lifted (os : Os) (started : os.Started) (H : Type) (enc : TypeId × Value → H) (F : Stop.Interp) :
    ReturnsInHanded {} Tryd.checked os 4 .any ((OpenSpec.ofChange Rows.summaryDecodesSpec).preRow enc Tryd.prog Tryd.f4 Rows.summaryDecodesRow.domain false Rows.summaryDecodesRow.laid) (((OpenSpec.ofChange Rows.summaryDecodesSpec).at F).post enc Tryd.prog Tryd.f4 false true false false) := by
  obtain ⟨places, hx⟩ := summaryDecodes_reads os enc
  refine returnsInHanded_of_row (C := Tryd.checked) (s := OpenSpec.ofChange Rows.summaryDecodesSpec) own started (by kernel_rfl) Tryd.func4
    (witness_row_at (enc := enc) (C := Tryd.checked) false (laidWorld os) #[.slice none 0 0] rfl (by kernel_rfl) (by kernel_rfl) (by kernel_rfl)
      (OpenSpec.preRow_of_cond 8 hx (by kernel_rfl) (fun k hk => by cases hk) (by kernel_rfl) (summaryDecodes_met os))) ?_
  intro W base args ds gs before hval hW _ _ _ hL _ _
  exact summaryDecodes_contract H enc W base args ds gs before hval hW hL

theorem summaryDecodes_said : Rows.SummaryDecodesSaid :=
  OpenClaim.holds_of_cond 4 Tryd.f4 rfl rfl rfl rfl rfl rfl rfl ⟨rfl, rfl, rfl, rfl, rfl⟩ rfl rfl rfl rfl rfl (by kernel_rfl) Tryd.func4 (by kernel_rfl)
    (of_decide_eq_true (by kernel_rfl)) (by unfold Func.isWrapper; first | (rw [if_pos (by decide +kernel)]; kernel_rfl) | (rw [if_neg (by decide +kernel)]; exact ⟨rfl, rfl⟩))
    (fun os started H enc _ F => by rw [OpenClaim.pre_eq_preRow]; exact summaryDecodes_lifted os started H enc F)

theorem summaryDecodes_plain (f : FuncId) (fn : Func) (hf : Tryd.pinned.checked.prog.funcNamed "haymow/haymowlaw06.SummaryDecodes" = some f) (hfn : Tryd.pinned.checked.prog.funcs[f]? = some fn) :
    false = Tryd.pinned.checked.prog.looks [] ∧ ∀ (j : Nat) t, fn.params[j]? = some t → Tryd.pinned.checked.prog.wantsStandIn t = false := by
  obtain rfl : f = 4 := Option.some.inj ((show Tryd.prog.funcNamed "haymow/haymowlaw06.SummaryDecodes" = some 4 by kernel_rfl).symm.trans hf) |>.symm
  obtain rfl : fn = Tryd.f4 := (Option.some.inj (Tryd.func4.symm.trans hfn)).symm
  refine ⟨by kernel_rfl, fun j t ht => ?_⟩
  rw [Tryd.params4] at ht
  have hall : ∀ t ∈ (Tryd.f4).params.toList, Tryd.prog.wantsStandIn t = false := by rw [Tryd.params4]; decide +kernel
  exact hall t (by rw [Tryd.params4]; exact Array.mem_toList_iff.2 (Array.mem_of_getElem? ht))

/-- THE CARD. -/
theorem summaryDecodes_holds : Rows.SummaryDecodesCardSaid :=
  Claim7.holds_tied_plain_at .later [] _ _ _ _ summaryDecodes_said (fun _ h => by cases h) (by kernel_rfl) (fun _ h => by cases h) summaryDecodes_row_tie rfl ⟨rfl, rfl⟩ (by kernel_rfl) rfl summaryDecodes_plain (by kernel_rfl)

end Go.Proofs.YtieajlpkiheebaaDoor
