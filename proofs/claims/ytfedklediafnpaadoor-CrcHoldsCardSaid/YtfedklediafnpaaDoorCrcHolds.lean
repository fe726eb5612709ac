/-
  CrcHolds: whether whatever octets there are are a sealed block is as the document says. For every input; the table of halves holds what its initialiser lays (the card ties it).
-/
import Derived.Test.YtfedklediafnpaaDoorCrcL
import Derived.Test.YtfedklediafnpaaDoorDoor
import Derived.Test.YtfedklediafnpaaDoorRegion
namespace Go.Proofs.YtfedklediafnpaaDoor
open Go.ChangeShapes Go.WideShapes Go.ChangeAt Go.RowKit

set_option maxHeartbeats 400000 in
theorem crcHolds_walk (w : World) (v : Value) (l : List UInt8) (hH : Halves w) (h : Bs w w.heap.size v l) :
    Calls Tryd.prog 4 #[v] w fun e w' => e = .returned (.bool true) ∧ Below w.heap.size w w' := by
  go_enter Tryd.func4, Tryd.ntmps4
  go_wp2_with fail
  refine (few_any _ _ _ _ h).mono ?_
  rintro e w' ⟨u, rfl, h2, rfl⟩
  generalize l.take 300 = m at *
  obtain ⟨A, c, rfl, hc, hm, hcell⟩ := h2.open_
  clear hcell h
  go_wp2_with fail
  have hG0 : Below w.heap.size w w.drew := (Below.refl _ _).drew
  refine wp_region_list 10 [(fun v _ => v = .slice A m.length c),
    (fun v _ => v = .bool (Crc.held m)),
    (fun v _ => v = .slice A m.length c),
    (fun v _ => v = .string ⟨m.toArray⟩),
    (fun v _ => v = .bool (Crc.held m)),
    (fun v _ => v = .bool true),
    (fun v _ => v = .bool true),
    (fun v _ => v = .bool true),
    (fun v _ => v = .bool true),
    (fun v _ => v = .bool true)]
    (fun x => Below w.heap.size w x) (by kernel_rfl) rfl (by kernel_rfl) ?_ ?_ ?_ ?_
  · exact hG0
  · exact ⟨stab_eq _, stab_eq _, stab_eq _, stab_eq _, stab_eq _, stab_eq _, stab_eq _, stab_eq _, stab_eq _, stab_eq _, trivial⟩
  · refine ⟨?_, ?_, ?_, ?_, ?_, ?_, ?_, ?_, ?_, ?_, trivial⟩
    · intro a x hG hd hs K hK
      have h0 : a.tmps.getD 0 undef = .slice A m.length c := hs 0 (by kernel_rfl)
      clear hd hs
      refine wpOp_plain rfl rfl ?_
      go_simp
      exact hK _ _ rfl hG (Below.refl _ _)
    · intro a x hG hd hs K hK
      have h5 : a.tmps.getD 5 undef = .slice A m.length c := hd 0 5 (by kernel_rfl)
      clear hd hs
      refine wpOp_plain rfl rfl ?_
      go_simp
      refine (held_any _ _ _ m (hH.ext hG) (h2.ext (Nat.le_refl _) hG) hG.size).mono ?_
      rintro e w' ⟨rfl, hb⟩
      exact hK _ _ rfl (hG.trans (hb.mono hG.size)) hb
    · intro a x hG hd hs K hK
      have h0 : a.tmps.getD 0 undef = .slice A m.length c := hs 0 (by kernel_rfl)
      clear hd hs
      refine wpOp_plain rfl rfl ?_
      go_simp
      exact hK _ _ rfl hG (Below.refl _ _)
    · intro a x hG hd hs K hK
      have h7 : a.tmps.getD 7 undef = .slice A m.length c := hd 2 7 (by kernel_rfl)
      clear hd hs
      refine wpOp_plain rfl rfl ?_
      have hcv := run_string_of (P := Tryd.prog) (h2.ext (Nat.le_refl _) hG) 23 9 5 Tryd.underlying23 Tryd.underlying5 Tryd.underlying9
      go_simp
      exact hK _ _ rfl hG (Below.refl _ _)
    · intro a x hG hd hs K hK
      have h8 : a.tmps.getD 8 undef = .string ⟨m.toArray⟩ := hd 3 8 (by kernel_rfl)
      clear hd hs
      refine wpOp_plain rfl rfl ?_
      go_simp
      refine (rheld_any _ m (by omega)).mono ?_
      rintro e w' ⟨rfl, hb⟩
      exact hK _ _ rfl (hG.trans (hb.mono hG.size)) hb
    · intro a x hG hd hs K hK
      have h6 : a.tmps.getD 6 undef = .bool (Crc.held m) := hd 1 6 (by kernel_rfl)
      have h9 : a.tmps.getD 9 undef = .bool (Crc.held m) := hd 4 9 (by kernel_rfl)
      clear hd hs
      refine wpOp_plain rfl rfl ?_
      go_simp
      exact hK _ _ rfl hG (Below.refl _ _)
    · intro a x hG hd hs K hK
      have h10 : a.tmps.getD 10 undef = .bool true := hd 5 10 (by kernel_rfl)
      clear hd hs
      refine wpOp_plain rfl rfl ?_
      go_simp
      exact hK _ _ rfl hG (Below.refl _ _)
    · intro a x hG hd hs K hK
      have h11 : a.tmps.getD 11 undef = .bool true := hd 6 11 (by kernel_rfl)
      clear hd hs
      refine wpOp_yes rfl rfl rfl h11 ?_
      go_simp
      refine (awake_any _ (hH.ext hG)).mono ?_
      rintro e w' ⟨rfl, hb⟩
      exact hK _ _ rfl (hG.trans (hb.mono hG.size)) hb
    · intro a x hG hd hs K hK
      have h11 : a.tmps.getD 11 undef = .bool true := hd 6 11 (by kernel_rfl)
      have h12 : a.tmps.getD 12 undef = .bool true := hd 7 12 (by kernel_rfl)
      clear hd hs
      refine wpOp_plain rfl rfl ?_
      go_simp
      exact hK _ _ rfl hG (Below.refl _ _)
    · intro a x hG hd hs K hK
      have h13 : a.tmps.getD 13 undef = .bool true := hd 8 13 (by kernel_rfl)
      clear hd hs
      refine wpOp_plain rfl rfl ?_
      go_simp
      exact hK _ _ rfl hG (Below.refl _ _)
  · intro x hG
    rintro _ rfl _ rfl _ rfl _ rfl _ rfl _ rfl _ rfl _ rfl _ rfl _ rfl
    simp only [Act.put, List.setIfInBounds_toArray, List.set_cons_zero, List.set_cons_succ, REnd, Exit.then]
    go_wp2
    go_ret
    exact ⟨rfl, hG⟩

/-- What the walk gives, for every argument and every world that holds the table. -/
theorem crcHolds_contract (H : Type) (enc : TypeId × Value → H) (W : World) (base : Nat) (args : Array Value) (ds gs : List (DataW H)) (before : List MemPlace)
    (hval : ∀ (j : Nat) t v, Tryd.f4.params[j]? = some t → args[j]? = some v → Value.okWide Tryd.prog W .any base t v)
    (hW : DataW.Whole enc Tryd.prog Tryd.f4.params.toList Rows.crcHoldsSpec.vars false W args.toList ds gs before) (hL : laidMetH Tryd.prog Rows.crcHoldsRow.laid W) :
    Calls Tryd.prog 4 args W fun e W' => ∃ v, e = .returned v ∧ Rows.crcHoldsSpec.post enc Tryd.prog Tryd.f4 false true false false W args v W' := by
  have hW' := hW
  obtain ⟨p, q, hA0, hV, hps, hfz, hnd⟩ := hW
  have hA : DataW.TrodAll enc Tryd.prog W 0 (fun _ => true) true Tryd.f4.params.toList args.toList ds p := hA0
  rw [Tryd.params4] at hA hval
  obtain ⟨v0, vs0, d0, ds0, p0, q0, hargs, rfl, rfl, h0, r0⟩ := trodAll_cons hA
  obtain ⟨rfl, rfl, rfl⟩ := trodAll_nil r0
  obtain rfl : args = #[v0] := by cases args; simp_all
  obtain ⟨rfl, rfl⟩ := trodVars_none hV
  obtain ⟨l0, b0⟩ := bs_of_trod Tryd.underlying23 Tryd.underlying5 cellsU8 (hval 0 23 v0 rfl rfl) h0
  clear hA0
  refine (crcHolds_walk W v0 l0 (halves_of hL) b0).mono fun e W' ⟨he, hb⟩ => ?_
  subst he
  exact ⟨_, rfl, law_post laidOut (by rw [Tryd.params4]; decide +kernel) rfl Tryd.underlying4 rfl rfl hW' hb⟩

theorem crcHolds_met (os : Os) : laidMet Tryd.prog Rows.crcHoldsRow.laid ((laidWorld os).forCall (fun _ _ => 0) ⟨#[], #[.slice none 0 0], []⟩).memory :=
  laidMet_of_run' 8 (by kernel_rfl) (by kernel_rfl)
theorem crcHolds_reads (os : Os) {H : Type} (enc : TypeId × Value → H) : ∃ places, DataW.whole enc Tryd.prog ((laidWorld os).forCall (fun _ _ => 0) ⟨#[], #[.slice none 0 0], []⟩).memory Tryd.f4.params.toList Rows.crcHoldsSpec.vars false (#[.slice none 0 0] : Array Value).toList 8 = some ([.nil], [], places) :=
  ⟨[], by kernel_rfl⟩

set_option maxRecDepth 100000 in
theorem crcHolds_lifted (os : Os) (started : os.Started) (H : Type) (enc : TypeId × Value → H) (F : Stop.Interp) :
    ReturnsInHanded {} Tryd.checked os 4 .any ((OpenSpec.ofChange Rows.crcHoldsSpec).preRow enc Tryd.prog Tryd.f4 Rows.crcHoldsRow.domain false Rows.crcHoldsRow.laid) (((OpenSpec.ofChange Rows.crcHoldsSpec).at F).post enc Tryd.prog Tryd.f4 false true false false) := by
  obtain ⟨places, hx⟩ := crcHolds_reads os enc
  refine returnsInHanded_of_row (C := Tryd.checked) (s := OpenSpec.ofChange Rows.crcHoldsSpec) own started (by kernel_rfl) Tryd.func4
    (witness_row_at (enc := enc) (C := Tryd.checked) false (laidWorld os) #[.slice none 0 0] rfl (by kernel_rfl) (by kernel_rfl) (by kernel_rfl)
      (OpenSpec.preRow_of_cond 8 hx (by kernel_rfl) (fun k hk => by cases hk) (by kernel_rfl) (crcHolds_met os))) ?_
  intro W base args ds gs before hval hW _ _ _ hL _ _
  exact crcHolds_contract H enc W base args ds gs before hval hW hL

theorem crcHolds_said : Rows.CrcHoldsSaid :=
  OpenClaim.holds_of_cond 4 Tryd.f4 rfl rfl rfl rfl rfl rfl rfl ⟨rfl, rfl, rfl, rfl, rfl⟩ rfl rfl rfl rfl rfl (by kernel_rfl) Tryd.func4 (by kernel_rfl)
    (of_decide_eq_true (by kernel_rfl)) (by unfold Func.isWrapper; first | (rw [if_pos (by decide +kernel)]; kernel_rfl) | (rw [if_neg (by decide +kernel)]; exact ⟨rfl, rfl⟩))
    (fun os started H enc _ F => by rw [OpenClaim.pre_eq_preRow]; exact crcHolds_lifted os started H enc F)

theorem crcHolds_plain (f : FuncId) (fn : Func) (hf : Tryd.pinned.checked.prog.funcNamed "haymow/haymowlaw02.CrcHolds" = some f) (hfn : Tryd.pinned.checked.prog.funcs[f]? = some fn) :
    false = Tryd.pinned.checked.prog.looks [] ∧ ∀ (j : Nat) t, fn.params[j]? = some t → Tryd.pinned.checked.prog.wantsStandIn t = false := by
  obtain rfl : f = 4 := Option.some.inj ((show Tryd.prog.funcNamed "haymow/haymowlaw02.CrcHolds" = some 4 by kernel_rfl).symm.trans hf) |>.symm
  obtain rfl : fn = Tryd.f4 := (Option.some.inj (Tryd.func4.symm.trans hfn)).symm
  refine ⟨by kernel_rfl, fun j t ht => ?_⟩
  rw [Tryd.params4] at ht
  have hall : ∀ t ∈ (Tryd.f4).params.toList, Tryd.prog.wantsStandIn t = false := by rw [Tryd.params4]; decide +kernel
  exact hall t (by rw [Tryd.params4]; exact Array.mem_toList_iff.2 (Array.mem_of_getElem? ht))

/-- THE CARD. -/
theorem crcHolds_holds : Rows.CrcHoldsCardSaid :=
  Claim7.holds_tied_plain_at .later [] _ _ _ _ crcHolds_said (fun _ h => by cases h) (by kernel_rfl) (fun _ h => by cases h) crcHolds_row_tie rfl ⟨rfl, rfl⟩ (by kernel_rfl) rfl crcHolds_plain (by kernel_rfl)
end Go.Proofs.YtfedklediafnpaaDoor
