/-
  CrcSeals: whatever is sealed is the document's block, or refused; what was handed in stays. For every input; the table of halves holds what its initialiser lays (the card ties it).
-/
import Derived.Test.YtfedklediafnpaaDoorCrcL
import Derived.Test.YtfedklediafnpaaDoorDoor
import Derived.Test.YtfedklediafnpaaDoorRegion
namespace Go.Proofs.YtfedklediafnpaaDoor
open Go.ChangeShapes Go.WideShapes Go.ChangeAt Go.RowKit

set_option maxHeartbeats 1000000 in
theorem crcSeals_walk (w : World) (v : Value) (l : List UInt8) (hH : Halves w) (h : Bs w w.heap.size v l) :
    Calls Tryd.prog 6 #[v] w fun e w' => e = .returned (.bool true) ∧ Below w.heap.size w w' := by
  go_enter Tryd.func6, Tryd.ntmps6
  go_wp2_with fail
  refine (few_any _ _ _ _ h).mono ?_
  rintro e w' ⟨u, rfl, h2, rfl⟩
  generalize l.take 300 = m at *
  obtain ⟨A, c, rfl, hc, hm, hcell⟩ := h2.open_
  clear hcell h
  have hcv := run_string_of (P := Tryd.prog) h2 23 9 5 Tryd.underlying23 Tryd.underlying5 Tryd.underlying9
  go_wp2_with fail
  by_cases hl : 124 < m.length
  · refine (seal_full _ _ _ m h2 hl).mono ?_
    rintro e w' ⟨rfl, rfl⟩
    go_wp2_with fail
    refine (awake_any _ hH).mono ?_
    rintro e w' ⟨rfl, hb⟩
    go_wp2
    go_ret
    exact ⟨rfl, hb⟩
  · refine (seal_any _ _ _ m hH h2 (Nat.le_refl _) (by omega)).mono ?_
    rintro e w1 ⟨u, rfl, hown, hb1⟩
    have hl' : ¬ (124 : Int) < (m.length : Int) := by omega
    clear hcv
    have hcv1 := run_string_of (P := Tryd.prog) (h2.ext (Nat.le_refl _) hb1) 23 9 5 Tryd.underlying23 Tryd.underlying5 Tryd.underlying9
    go_wp2_with fail
    have hlen := Crc.length_sealed m (by omega)
    have hx : Bs w1 w1.heap.size u (Crc.sealed m) := Bs.of_own (by rw [hlen]; exact hown)
    obtain ⟨A', c', rfl, hc', hm', _⟩ := hx.open_
    have HL := Lib.hid hlen
    clear hlen hcv1 hown
    have hG0 : Below w1.heap.size w1 w1.drew := (Below.refl _ _).drew
    refine wp_region_list 17 [(fun v _ => v = .slice A' (Crc.sealed m).length c'),
      (fun v _ => v = .string ⟨(Crc.sealed m).toArray⟩),
      (fun v _ => v = .string ⟨m.toArray⟩),
      (fun v _ => v = .string ⟨(Crc.sealed m).toArray⟩),
      (fun v _ => v = .bool true),
      (fun v _ => v = .bool true),
      (fun v _ => v = .int .i64 0),
      (fun v _ => v = .bool true),
      (fun v _ => v = .bool true),
      (fun v _ => v = .bool true),
      (fun v _ => v = .slice A' (Crc.sealed m).length c'),
      (fun v _ => v = .bool true),
      (fun v _ => v = .bool true),
      (fun v _ => v = .bool true),
      (fun v _ => v = .bool true),
      (fun v _ => v = .bool true),
      (fun v _ => v = .bool true)]
      (fun x => Below w1.heap.size w1 x) (by kernel_rfl) rfl (by kernel_rfl) ?_ ?_ ?_ ?_
    · exact hG0
    · exact ⟨stab_eq _, stab_eq _, stab_eq _, stab_eq _, stab_eq _, stab_eq _, stab_eq _, stab_eq _, stab_eq _, stab_eq _, stab_eq _, stab_eq _, stab_eq _, stab_eq _, stab_eq _, stab_eq _, stab_eq _, trivial⟩
    · refine ⟨?_, ?_, ?_, ?_, ?_, ?_, ?_, ?_, ?_, ?_, ?_, ?_, ?_, ?_, ?_, ?_, ?_, trivial⟩
      · intro a x hG hd hs K hK
        have h4 : a.tmps.getD 4 undef = .slice A' (Crc.sealed m).length c' := hs 4 (by kernel_rfl)
        clear hd hs
        refine wpOp_plain rfl rfl ?_
        go_simp
        exact hK _ _ rfl hG (Below.refl _ _)
      · intro a x hG hd hs K hK
        have h32 : a.tmps.getD 32 undef = .slice A' (Crc.sealed m).length c' := hd 0 32 (by kernel_rfl)
        clear hd hs
        refine wpOp_plain rfl rfl ?_
        have hcv := run_string_of (P := Tryd.prog) (hx.ext (Nat.le_refl _) hG) 23 9 5 Tryd.underlying23 Tryd.underlying5 Tryd.underlying9
        go_simp
        exact hK _ _ rfl hG (Below.refl _ _)
      · intro a x hG hd hs K hK
        have h3 : a.tmps.getD 3 undef = .string ⟨m.toArray⟩ := hs 3 (by kernel_rfl)
        clear hd hs
        refine wpOp_plain rfl rfl ?_
        go_simp
        exact hK _ _ rfl hG (Below.refl _ _)
      · intro a x hG hd hs K hK
        have h34 : a.tmps.getD 34 undef = .string ⟨m.toArray⟩ := hd 2 34 (by kernel_rfl)
        clear hd hs
        refine wpOp_plain rfl rfl ?_
        go_simp
        refine (rseal_any _ m (by omega)).mono ?_
        rintro e w' ⟨rfl, hb⟩
        exact hK _ _ rfl (hG.trans (hb.mono hG.size)) hb
      · intro a x hG hd hs K hK
        have h33 : a.tmps.getD 33 undef = .string ⟨(Crc.sealed m).toArray⟩ := hd 1 33 (by kernel_rfl)
        have h35 : a.tmps.getD 35 undef = .string ⟨(Crc.sealed m).toArray⟩ := hd 3 35 (by kernel_rfl)
        clear hd hs
        refine wpOp_plain rfl rfl ?_
        go_simp
        exact hK _ _ rfl hG (Below.refl _ _)
      · intro a x hG hd hs K hK
        have h36 : a.tmps.getD 36 undef = .bool true := hd 4 36 (by kernel_rfl)
        clear hd hs
        refine wpOp_plain rfl rfl ?_
        go_simp
        exact hK _ _ rfl hG (Below.refl _ _)
      · intro a x hG hd hs K hK
        have h5 : a.tmps.getD 5 undef = .int .i64 0 := hs 5 (by kernel_rfl)
        have h37 : a.tmps.getD 37 undef = .bool true := hd 5 37 (by kernel_rfl)
        clear hd hs
        refine wpOp_yes rfl rfl rfl h37 ?_
        go_simp
        exact hK _ _ rfl hG (Below.refl _ _)
      · intro a x hG hd hs K hK
        have h38 : a.tmps.getD 38 undef = .int .i64 0 := hd 6 38 (by kernel_rfl)
        have h37 : a.tmps.getD 37 undef = .bool true := hd 5 37 (by kernel_rfl)
        clear hd hs
        refine wpOp_yes rfl rfl rfl h37 ?_
        go_simp
        exact hK _ _ rfl hG (Below.refl _ _)
      · intro a x hG hd hs K hK
        have h37 : a.tmps.getD 37 undef = .bool true := hd 5 37 (by kernel_rfl)
        have h39 : a.tmps.getD 39 undef = .bool true := hd 7 39 (by kernel_rfl)
        clear hd hs
        refine wpOp_plain rfl rfl ?_
        go_simp
        exact hK _ _ rfl hG (Below.refl _ _)
      · intro a x hG hd hs K hK
        have h40 : a.tmps.getD 40 undef = .bool true := hd 8 40 (by kernel_rfl)
        clear hd hs
        refine wpOp_plain rfl rfl ?_
        go_simp
        exact hK _ _ rfl hG (Below.refl _ _)
      · intro a x hG hd hs K hK
        have h4 : a.tmps.getD 4 undef = .slice A' (Crc.sealed m).length c' := hs 4 (by kernel_rfl)
        have h41 : a.tmps.getD 41 undef = .bool true := hd 9 41 (by kernel_rfl)
        clear hd hs
        refine wpOp_yes rfl rfl rfl h41 ?_
        go_simp
        exact hK _ _ rfl hG (Below.refl _ _)
      · intro a x hG hd hs K hK
        have h42 : a.tmps.getD 42 undef = .slice A' (Crc.sealed m).length c' := hd 10 42 (by kernel_rfl)
        have h41 : a.tmps.getD 41 undef = .bool true := hd 9 41 (by kernel_rfl)
        clear hd hs
        refine wpOp_yes rfl rfl rfl h41 ?_
        go_simp
        refine (held_any _ _ _ _ (hH.ext (hb1.trans (hG.mono hb1.size))) (hx.ext (Nat.le_refl _) hG) hG.size).mono ?_
        rintro e w' ⟨rfl, hb⟩
        rw [Crc.held_sealed m (by omega)]
        exact hK _ _ rfl (hG.trans (hb.mono hG.size)) hb
      · intro a x hG hd hs K hK
        have h41 : a.tmps.getD 41 undef = .bool true := hd 9 41 (by kernel_rfl)
        have h43 : a.tmps.getD 43 undef = .bool true := hd 11 43 (by kernel_rfl)
        clear hd hs
        refine wpOp_plain rfl rfl ?_
        go_simp
        exact hK _ _ rfl hG (Below.refl _ _)
      · intro a x hG hd hs K hK
        have h44 : a.tmps.getD 44 undef = .bool true := hd 12 44 (by kernel_rfl)
        clear hd hs
        refine wpOp_plain rfl rfl ?_
        go_simp
        exact hK _ _ rfl hG (Below.refl _ _)
      · intro a x hG hd hs K hK
        have h45 : a.tmps.getD 45 undef = .bool true := hd 13 45 (by kernel_rfl)
        clear hd hs
        refine wpOp_yes rfl rfl rfl h45 ?_
        go_simp
        refine (awake_any _ (hH.ext (hb1.trans (hG.mono hb1.size)))).mono ?_
        rintro e w' ⟨rfl, hb⟩
        exact hK _ _ rfl (hG.trans (hb.mono hG.size)) hb
      · intro a x hG hd hs K hK
        have h45 : a.tmps.getD 45 undef = .bool true := hd 13 45 (by kernel_rfl)
        have h46 : a.tmps.getD 46 undef = .bool true := hd 14 46 (by kernel_rfl)
        clear hd hs
        refine wpOp_plain rfl rfl ?_
        go_simp
        exact hK _ _ rfl hG (Below.refl _ _)
      · intro a x hG hd hs K hK
        have h47 : a.tmps.getD 47 undef = .bool true := hd 15 47 (by kernel_rfl)
        clear hd hs
        refine wpOp_plain rfl rfl ?_
        go_simp
        exact hK _ _ rfl hG (Below.refl _ _)
    · intro x hG
      rintro _ rfl _ rfl _ rfl _ rfl _ rfl _ rfl _ rfl _ rfl _ rfl _ rfl _ rfl _ rfl _ rfl _ rfl _ rfl _ rfl _ rfl
      simp only [Act.put, List.setIfInBounds_toArray, List.set_cons_zero, List.set_cons_succ, REnd, Exit.then]
      go_wp2
      go_ret
      exact ⟨rfl, hb1.trans (hG.mono hb1.size)⟩

/-- What the walk gives, for every argument and every world that holds the table. -/
theorem crcSeals_contract (H : Type) (enc : TypeId × Value → H) (W : World) (base : Nat) (args : Array Value) (ds gs : List (DataW H)) (before : List MemPlace)
    (hval : ∀ (j : Nat) t v, Tryd.f6.params[j]? = some t → args[j]? = some v → Value.okWide Tryd.prog W .any base t v)
    (hW : DataW.Whole enc Tryd.prog Tryd.f6.params.toList Rows.crcSealsSpec.vars false W args.toList ds gs before) (hL : laidMetH Tryd.prog Rows.crcSealsRow.laid W) :
    Calls Tryd.prog 6 args W fun e W' => ∃ v, e = .returned v ∧ Rows.crcSealsSpec.post enc Tryd.prog Tryd.f6 false true false false W args v W' := by
  have hW' := hW
  obtain ⟨p, q, hA0, hV, hps, hfz, hnd⟩ := hW
  have hA : DataW.TrodAll enc Tryd.prog W 0 (fun _ => true) true Tryd.f6.params.toList args.toList ds p := hA0
  rw [Tryd.params6] at hA hval
  obtain ⟨v0, vs0, d0, ds0, p0, q0, hargs, rfl, rfl, h0, r0⟩ := trodAll_cons hA
  obtain ⟨rfl, rfl, rfl⟩ := trodAll_nil r0
  obtain rfl : args = #[v0] := by cases args; simp_all
  obtain ⟨rfl, rfl⟩ := trodVars_none hV
  obtain ⟨l0, b0⟩ := bs_of_trod Tryd.underlying23 Tryd.underlying5 cellsU8 (hval 0 23 v0 rfl rfl) h0
  clear hA0
  refine (crcSeals_walk W v0 l0 (halves_of hL) b0).mono fun e W' ⟨he, hb⟩ => ?_
  subst he
  exact ⟨_, rfl, law_post laidOut (by rw [Tryd.params6]; decide +kernel) rfl Tryd.underlying4 rfl rfl hW' hb⟩

theorem crcSeals_met (os : Os) : laidMet Tryd.prog Rows.crcSealsRow.laid ((laidWorld os).forCall (fun _ _ => 0) ⟨#[], #[.slice none 0 0], []⟩).memory :=
  laidMet_of_run' 8 (by kernel_rfl) (by kernel_rfl)
theorem crcSeals_reads (os : Os) {H : Type} (enc : TypeId × Value → H) : ∃ places, DataW.whole enc Tryd.prog ((laidWorld os).forCall (fun _ _ => 0) ⟨#[], #[.slice none 0 0], []⟩).memory Tryd.f6.params.toList Rows.crcSealsSpec.vars false (#[.slice none 0 0] : Array Value).toList 8 = some ([.nil], [], places) :=
  ⟨[], by kernel_rfl⟩

set_option maxRecDepth 100000 in
theorem crcSeals_lifted (os : Os) (started : os.Started) (H : Type) (enc : TypeId × Value → H) (F : Stop.Interp) :
    ReturnsInHanded {} Tryd.checked os 6 .any ((OpenSpec.ofChange Rows.crcSealsSpec).preRow enc Tryd.prog Tryd.f6 Rows.crcSealsRow.domain false Rows.crcSealsRow.laid) (((OpenSpec.ofChange Rows.crcSealsSpec).at F).post enc Tryd.prog Tryd.f6 false true false false) := by
  obtain ⟨places, hx⟩ := crcSeals_reads os enc
  refine returnsInHanded_of_row (C := Tryd.checked) (s := OpenSpec.ofChange Rows.crcSealsSpec) own started (by kernel_rfl) Tryd.func6
    (witness_row_at (enc := enc) (C := Tryd.checked) false (laidWorld os) #[.slice none 0 0] rfl (by kernel_rfl) (by kernel_rfl) (by kernel_rfl)
      (OpenSpec.preRow_of_cond 8 hx (by kernel_rfl) (fun k hk => by cases hk) (by kernel_rfl) (crcSeals_met os))) ?_
  intro W base args ds gs before hval hW _ _ _ hL _ _
  exact crcSeals_contract H enc W base args ds gs before hval hW hL

theorem crcSeals_said : Rows.CrcSealsSaid :=
  OpenClaim.holds_of_cond 6 Tryd.f6 rfl rfl rfl rfl rfl rfl rfl ⟨rfl, rfl, rfl, rfl, rfl⟩ rfl rfl rfl rfl rfl (by kernel_rfl) Tryd.func6 (by kernel_rfl)
    (of_decide_eq_true (by kernel_rfl)) (by unfold Func.isWrapper; first | (rw [if_pos (by decide +kernel)]; kernel_rfl) | (rw [if_neg (by decide +kernel)]; exact ⟨rfl, rfl⟩))
    (fun os started H enc _ F => by rw [OpenClaim.pre_eq_preRow]; exact crcSeals_lifted os started H enc F)

theorem crcSeals_plain (f : FuncId) (fn : Func) (hf : Tryd.pinned.checked.prog.funcNamed "haymow/haymowlaw02.CrcSeals" = some f) (hfn : Tryd.pinned.checked.prog.funcs[f]? = some fn) :
    false = Tryd.pinned.checked.prog.looks [] ∧ ∀ (j : Nat) t, fn.params[j]? = some t → Tryd.pinned.checked.prog.wantsStandIn t = false := by
  obtain rfl : f = 6 := Option.some.inj ((show Tryd.prog.funcNamed "haymow/haymowlaw02.CrcSeals" = some 6 by kernel_rfl).symm.trans hf) |>.symm
  obtain rfl : fn = Tryd.f6 := (Option.some.inj (Tryd.func6.symm.trans hfn)).symm
  refine ⟨by kernel_rfl, fun j t ht => ?_⟩
  rw [Tryd.params6] at ht
  have hall : ∀ t ∈ (Tryd.f6).params.toList, Tryd.prog.wantsStandIn t = false := by rw [Tryd.params6]; decide +kernel
  exact hall t (by rw [Tryd.params6]; exact Array.mem_toList_iff.2 (Array.mem_of_getElem? ht))

/-- THE CARD. -/
theorem crcSeals_holds : Rows.CrcSealsCardSaid :=
  Claim7.holds_tied_plain_at .later [] _ _ _ _ crcSeals_said (fun _ h => by cases h) (by kernel_rfl) (fun _ h => by cases h) crcSeals_row_tie rfl ⟨rfl, rfl⟩ (by kernel_rfl) rfl crcSeals_plain (by kernel_rfl)

end Go.Proofs.YtfedklediafnpaaDoor
