/-
  LabelReads: whatever octets there are are the document's geometry, and label, or refused with its error. For every input.
-/
import Derived.Test.YtmcgadhahhfflaaDoorLabelL
namespace Go.Proofs.YtmcgadhahhfflaaDoor
open Go.ChangeShapes Go.WideShapes Go.ChangeAt Go.RowKit

theorem supIs_same {l : List UInt8} {a b c d a' b' c' d' : Int}
    (h : (Lb.rsErr l = 0 ∧ a = (Lb.fa l : Nat) ∧ b = (Lb.fb l : Nat) ∧ c = (Lb.fc l : Nat) ∧ d = (Lb.fd l : Nat)) ∨ (Lb.rsErr l ≠ 0 ∧ a = 0 ∧ b = 0 ∧ c = 0 ∧ d = 0))
    (h' : (Lb.rsErr l = 0 ∧ a' = (Lb.fa l : Nat) ∧ b' = (Lb.fb l : Nat) ∧ c' = (Lb.fc l : Nat) ∧ d' = (Lb.fd l : Nat)) ∨ (Lb.rsErr l ≠ 0 ∧ a' = 0 ∧ b' = 0 ∧ c' = 0 ∧ d' = 0)) : a' = a ∧ b' = b ∧ c' = c ∧ d' = d := by
  omega
theorem labIs_same {l : List UInt8} {a b a' b' : Int}
    (h : (Lb.rlErr l = 0 ∧ a = (Lb.ga l : Nat) ∧ b = (Lb.gb l : Nat)) ∨ (Lb.rlErr l ≠ 0 ∧ a = 0 ∧ b = 0))
    (h' : (Lb.rlErr l = 0 ∧ a' = (Lb.ga l : Nat) ∧ b' = (Lb.gb l : Nat)) ∨ (Lb.rlErr l ≠ 0 ∧ a' = 0 ∧ b' = 0)) : a' = a ∧ b' = b := by
  omega

set_option maxRecDepth 100000 in
set_option maxHeartbeats 4000000 in
theorem labelReads_walk (w : World) (v : Value) (l : List UInt8) (hH : Halves w) (h : Bs w w.heap.size v l) :
    Calls Tryd.prog 6 #[v] w fun e w' => e = .returned (.bool true) ∧ Below w.heap.size w w' := by
  go_enter Tryd.func6, Tryd.ntmps6
  go_wp2_with fail
  refine (few_any w v _ l h).mono ?_
  rintro e w' ⟨u, rfl, h0, rfl⟩
  have hl2 : (l.take 200).length ≤ 200 := by rw [List.length_take]; omega
  clear h
  generalize l.take 200 = q at *
  go_wp2_with fail
  refine (readSuper_any w _ q hH h0).mono ?_
  rintro e w1 ⟨a, b, c, d, rfl, hv1, b1⟩
  go_wp2_with fail
  have k1 := Blk.new w1 23 #[.int .i64 a, .int .i64 b, .int .i64 c, .int .i64 d]
  have c1 := b1.alloc b1.size (.cells #[.int .i64 a, .int .i64 b, .int .i64 c, .int .i64 d] 23)
  have g1 : w1.heap.size < (w1.alloc (.cells #[.int .i64 a, .int .i64 b, .int .i64 c, .int .i64 d] 23)).heap.size := by simp
  generalize w1.alloc (.cells #[.int .i64 a, .int .i64 b, .int .i64 c, .int .i64 d] 23) = w2 at *
  have h2 := h0.ext (Nat.le_refl _) c1
  have hst2 := run_string_of (P := Tryd.prog) h2 28 9 5 Tryd.underlying28 Tryd.underlying5 Tryd.underlying9
  rw [hst2]
  clear hst2
  go_wp2_with fail
  refine (rreadSuper_any w2 q (by omega)).mono ?_
  rintro e w3 ⟨a', b', c', d', rfl, hv2, b3⟩
  obtain ⟨rfl, rfl, rfl, rfl⟩ := supIs_same hv1 hv2
  have k3 := k1.ext b3
  have c3 := c1.trans (b3.mono c1.size)
  clear hv2 b3 h2 k1 c1
  go_wp2_with fail
  have k4 := k3.alloc (.cells #[.int .i64 a', .int .i64 b', .int .i64 c', .int .i64 d'] 23)
  have j4 := Blk.new w3 23 #[.int .i64 a', .int .i64 b', .int .i64 c', .int .i64 d']
  have c4 := c3.alloc c3.size (.cells #[.int .i64 a', .int .i64 b', .int .i64 c', .int .i64 d'] 23)
  generalize w3.alloc (.cells #[.int .i64 a', .int .i64 b', .int .i64 c', .int .i64 d'] 23) = w4 at *
  have h4 := h0.ext (Nat.le_refl _) c4
  clear k3 c3
  refine (readLabel_any w4 _ q (hH.ext c4) (h4.more c4.size)).mono ?_
  rintro e w5 ⟨m, n, rfl, hv3, b5⟩
  have k5 := k4.ext b5
  have j5 := j4.ext b5
  have c5 := c4.trans (b5.mono c4.size)
  have h5 := h0.ext (Nat.le_refl _) c5
  clear k4 j4 c4 b5 h4
  have hst5 := run_string_of (P := Tryd.prog) h5 28 9 5 Tryd.underlying28 Tryd.underlying5 Tryd.underlying9
  go_wp2_with fail
  clear hst5
  refine (rreadLabel_any w5 q (by omega)).mono ?_
  rintro e w6 ⟨m', n', rfl, hv4, b6⟩
  obtain ⟨rfl, rfl⟩ := labIs_same hv3 hv4
  have k6 := k5.ext b6
  have j6 := j5.ext b6
  have c6 := c5.trans (b6.mono c5.size)
  clear k5 j5 c5 b6 h5 hv3 hv4 hv1
  have x0 := k6.cell 0
  have x1 := k6.cell 1
  have x2 := k6.cell 2
  have x3 := k6.cell 3
  have y0 := j6.cell 0
  have y1 := j6.cell 1
  have y2 := j6.cell 2
  have y3 := j6.cell 3
  simp only [List.getElem?_cons_zero, List.getElem?_cons_succ] at x0 x1 x2 x3 y0 y1 y2 y3
  generalize Lb.rsErr q = E1
  generalize Lb.rlErr q = E2
  go_wp2_with fail
  refine (awake_any _ (hH.ext c6)).mono ?_
  rintro e w7 ⟨rfl, b7⟩
  go_wp2
  go_ret
  exact ⟨rfl, c6.trans (b7.mono c6.size)⟩

/-- What the walk gives, for every argument and every world that holds the table. -/
theorem labelReads_contract (H : Type) (enc : TypeId × Value → H) (W : World) (base : Nat) (args : Array Value) (ds gs : List (DataW H)) (before : List MemPlace)
    (hval : ∀ (j : Nat) t v, Tryd.f6.params[j]? = some t → args[j]? = some v → Value.okWide Tryd.prog W .any base t v)
    (hW : DataW.Whole enc Tryd.prog Tryd.f6.params.toList Rows.labelReadsSpec.vars false W args.toList ds gs before) (hL : laidMetH Tryd.prog Rows.labelReadsRow.laid W) :
    Calls Tryd.prog 6 args W fun e W' => ∃ v, e = .returned v ∧ Rows.labelReadsSpec.post enc Tryd.prog Tryd.f6 false true false false W args v W' := by
  have hW' := hW
  obtain ⟨p, q, hA0, hV, hps, hfz, hnd⟩ := hW
  have hA : DataW.TrodAll enc Tryd.prog W 0 (fun _ => true) true Tryd.f6.params.toList args.toList ds p := hA0
  rw [Tryd.params6] at hA hval
  obtain ⟨v0, vs0, d0, ds0, p0, q0, hargs, rfl, rfl, h0, r0⟩ := trodAll_cons hA
  obtain ⟨rfl, rfl, rfl⟩ := trodAll_nil r0
  obtain rfl : args = #[v0] := by cases args; simp_all
  obtain ⟨rfl, rfl⟩ := trodVars_none hV
  obtain ⟨l0, b0⟩ := bs_of_trod Tryd.underlying28 Tryd.underlying5 cellsU8 (hval 0 28 v0 rfl rfl) h0
  clear hA0
  refine (labelReads_walk W v0 l0 (halves_of hL) b0).mono fun e W' ⟨he, hb⟩ => ?_
  subst he
  exact ⟨_, rfl, law_post laidOut (by rw [Tryd.params6]; decide +kernel) rfl Tryd.underlying4 rfl rfl hW' hb⟩

theorem labelReads_met (os : Os) : laidMet Tryd.prog Rows.labelReadsRow.laid ((laidWorld os).forCall (fun _ _ => 0) ⟨#[], #[.slice none 0 0], []⟩).memory :=
  laidMet_of_run' 8 (by kernel_rfl) (by kernel_rfl)
theorem labelReads_reads (os : Os) {H : Type} (enc : TypeId × Value → H) : ∃ places, DataW.whole enc Tryd.prog ((laidWorld os).forCall (fun _ _ => 0) ⟨#[], #[.slice none 0 0], []⟩).memory Tryd.f6.params.toList Rows.labelReadsSpec.vars false (#[.slice none 0 0] : Array Value).toList 8 = some ([.nil], [], places) :=
  ⟨[], by kernel_rfl⟩

set_option maxRecDepth 100000 in
theorem labelReads_lifted (os : Os) (started : os.Started) (H : Type) (enc : TypeId × Value → H) (F : Stop.Interp) :
    ReturnsInHanded {} Tryd.checked os 6 .any ((OpenSpec.ofChange Rows.labelReadsSpec).preRow enc Tryd.prog Tryd.f6 Rows.labelReadsRow.domain false Rows.labelReadsRow.laid) (((OpenSpec.ofChange Rows.labelReadsSpec).at F).post enc Tryd.prog Tryd.f6 false true false false) := by
  obtain ⟨places, hx⟩ := labelReads_reads os enc
  refine returnsInHanded_of_row (C := Tryd.checked) (s := OpenSpec.ofChange Rows.labelReadsSpec) own started (by kernel_rfl) Tryd.func6
    (witness_row_at (enc := enc) (C := Tryd.checked) false (laidWorld os) #[.slice none 0 0] rfl (by kernel_rfl) (by kernel_rfl) (by kernel_rfl)
      (OpenSpec.preRow_of_cond 8 hx (by kernel_rfl) (fun k hk => by cases hk) (by kernel_rfl) (labelReads_met os))) ?_
  intro W base args ds gs before hval hW _ _ _ hL _ _
  exact labelReads_contract H enc W base args ds gs before hval hW hL

theorem labelReads_said : Rows.LabelReadsSaid :=
  OpenClaim.holds_of_cond 6 Tryd.f6 rfl rfl rfl rfl rfl rfl rfl ⟨rfl, rfl, rfl, rfl, rfl⟩ rfl rfl rfl rfl rfl (by kernel_rfl) Tryd.func6 (by kernel_rfl)
    (of_decide_eq_true (by kernel_rfl)) (by unfold Func.isWrapper; first | (rw [if_pos (by decide +kernel)]; kernel_rfl) | (rw [if_neg (by decide +kernel)]; exact ⟨rfl, rfl⟩))
    (fun os started H enc _ F => by rw [OpenClaim.pre_eq_preRow]; exact labelReads_lifted os started H enc F)

theorem labelReads_plain (f : FuncId) (fn : Func) (hf : Tryd.pinned.checked.prog.funcNamed "haymow/haymowlaw05.LabelReads" = some f) (hfn : Tryd.pinned.checked.prog.funcs[f]? = some fn) :
    false = Tryd.pinned.checked.prog.looks [] ∧ ∀ (j : Nat) t, fn.params[j]? = some t → Tryd.pinned.checked.prog.wantsStandIn t = false := by
  obtain rfl : f = 6 := Option.some.inj ((show Tryd.prog.funcNamed "haymow/haymowlaw05.LabelReads" = some 6 by kernel_rfl).symm.trans hf) |>.symm
  obtain rfl : fn = Tryd.f6 := (Option.some.inj (Tryd.func6.symm.trans hfn)).symm
  refine ⟨by kernel_rfl, fun j t ht => ?_⟩
  rw [Tryd.params6] at ht
  have hall : ∀ t ∈ (Tryd.f6).params.toList, Tryd.prog.wantsStandIn t = false := by rw [Tryd.params6]; decide +kernel
  exact hall t (by rw [Tryd.params6]; exact Array.mem_toList_iff.2 (Array.mem_of_getElem? ht))

/-- THE CARD. -/
theorem labelReads_holds : Rows.LabelReadsCardSaid :=
  Claim7.holds_tied_plain_at .later [] _ _ _ _ labelReads_said (fun _ h => by cases h) (by kernel_rfl) (fun _ h => by cases h) labelReads_row_tie rfl ⟨rfl, rfl⟩ (by kernel_rfl) rfl labelReads_plain (by kernel_rfl)

end Go.Proofs.YtmcgadhahhfflaaDoor
