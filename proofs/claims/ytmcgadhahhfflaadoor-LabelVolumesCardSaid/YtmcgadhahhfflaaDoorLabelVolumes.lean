/-
  LabelVolumes: the label of any volume is the document's, or refused, and is read as it was. For every input.
-/
import Derived.Test.YtmcgadhahhfflaaDoorLabelL
namespace Go.Proofs.YtmcgadhahhfflaaDoor
open Go.ChangeShapes Go.WideShapes Go.ChangeAt Go.RowKit

set_option maxRecDepth 100000 in
set_option maxHeartbeats 8000000 in
theorem labelVolumes_walk (w : World) (v g : Int) (hH : Halves w) :
    Calls Tryd.prog 5 #[.int .i64 v, .int .i64 g] w fun e w' => e = .returned (.bool true) ∧ Below w.heap.size w w' := by
  cases hg : Lb.labB v g with
  | false =>
    go_enter Tryd.func5, Tryd.ntmps5
    go_wp2_with fail
    refine (label_no v g w hg).mono ?_
    rintro e w1 ⟨rfl, b1⟩
    go_wp2_with fail
    refine (rlab_any v g w1).mono ?_
    rintro e w' ⟨rfl, rfl⟩
    rw [hg]
    go_wp2_with fail
    refine (awake_any _ (hH.ext b1)).mono ?_
    rintro e w7 ⟨rfl, b7⟩
    go_wp2
    go_ret
    exact ⟨rfl, b1.trans (b7.mono b1.size)⟩
  | true =>
    have hgg : 0 ≤ v ∧ v < 8 ∧ 0 ≤ g ∧ g ≤ 4294967295 := by
      unfold Lb.labB at hg
      exact of_decide_eq_true hg
    obtain ⟨v, rfl⟩ := Int.eq_ofNat_of_zero_le (show 0 ≤ v by omega)
    obtain ⟨g, rfl⟩ := Int.eq_ofNat_of_zero_le (show 0 ≤ g by omega)
    obtain ⟨q1, q2, q3, q4⟩ := Lb.lab_back v g hg
    go_enter Tryd.func5, Tryd.ntmps5
    go_wp2_with fail
    refine (label_yes v g w hH hg).mono ?_
    rintro e w1 ⟨u, rfl, hs1, b1⟩
    go_wp2_with fail
    refine (rlab_any v g w1).mono ?_
    rintro e w' ⟨rfl, rfl⟩
    rw [hg]
    go_wp2_with fail
    refine (readLabel_any w1 _ _ (hH.ext b1) hs1).mono ?_
    rintro e w2 ⟨zm, zn, rfl, hv3, b2⟩
    rw [q1] at hv3
    rw [q1]
    obtain ⟨rfl, rfl⟩ : zm = v ∧ zn = g := by omega
    have c2 := b1.trans (b2.mono b1.size)
    have hs2 := (hs1.ext (Nat.le_refl _) b2).more b2.size
    clear b1 b2 hs1 hv3
    go_wp2_with fail
    refine (readSuper_any w2 _ _ (hH.ext c2) hs2).mono ?_
    rintro e w3 ⟨za, zb, zc, zd, rfl, hv1, b3⟩
    rw [q4]
    have c3 := c2.trans (b3.mono c2.size)
    have hs3 := (hs2.ext (Nat.le_refl _) b3).more b3.size
    clear c2 b3 hs2 hv1 q1 q2 q3 q4
    go_wp2_with fail
    have c4 := c3.alloc c3.size (.cells #[.int .i64 za, .int .i64 zb, .int .i64 zc, .int .i64 zd] 23)
    have hs4 : Bs (w3.alloc (.cells #[.int .i64 za, .int .i64 zb, .int .i64 zc, .int .i64 zd] 23)) (w3.alloc (.cells #[.int .i64 za, .int .i64 zb, .int .i64 zc, .int .i64 zd] 23)).heap.size u (Lb.labE v g) := Bs.more (Rds.alloc hs3 (Nat.le_refl _) _) (by simp)
    generalize w3.alloc (.cells #[.int .i64 za, .int .i64 zb, .int .i64 zc, .int .i64 zd] 23) = w5 at *
    clear c3 hs3
    have hG0 : Below w5.heap.size w5 w5.drew := (Below.refl _ _).drew
    refine wp_region_list 32 [(fun y_ _ => y_ = u),
      (fun y_ _ => y_ = .string ⟨(Lb.labE v g).toArray⟩),
      (fun y_ _ => y_ = .int .i64 (v : Int)),
      (fun y_ _ => y_ = .int .i64 (g : Int)),
      (fun y_ _ => y_ = .string ⟨(Lb.labE v g).toArray⟩),
      (fun y_ _ => y_ = .bool true),
      (fun y_ _ => y_ = .bool true),
      (fun y_ _ => y_ = .int .i64 0),
      (fun y_ _ => y_ = .bool true),
      (fun y_ _ => y_ = .bool true),
      (fun y_ _ => y_ = .bool true),
      (fun y_ _ => y_ = .int .i64 (v : Int)),
      (fun y_ _ => y_ = .int .i64 (v : Int)),
      (fun y_ _ => y_ = .bool true),
      (fun y_ _ => y_ = .bool true),
      (fun y_ _ => y_ = .bool true),
      (fun y_ _ => y_ = .int .i64 (g : Int)),
      (fun y_ _ => y_ = .int .i64 (g : Int)),
      (fun y_ _ => y_ = .bool true),
      (fun y_ _ => y_ = .bool true),
      (fun y_ _ => y_ = .bool true),
      (fun y_ _ => y_ = .int .i64 0),
      (fun y_ _ => y_ = .bool true),
      (fun y_ _ => y_ = .bool true),
      (fun y_ _ => y_ = .bool true),
      (fun y_ _ => y_ = .int .i64 3),
      (fun y_ _ => y_ = .bool true),
      (fun y_ _ => y_ = .bool true),
      (fun y_ _ => y_ = .bool true),
      (fun y_ _ => y_ = .bool true),
      (fun y_ _ => y_ = .bool true),
      (fun y_ _ => y_ = .bool true)]
      (fun x => Below w5.heap.size w5 x) (by kernel_rfl) rfl (by kernel_rfl) ?_ ?_ ?_ ?_
    · exact hG0
    · exact ⟨stab_eq _, stab_eq _, stab_eq _, stab_eq _, stab_eq _, stab_eq _, stab_eq _, stab_eq _, stab_eq _, stab_eq _, stab_eq _, stab_eq _, stab_eq _, stab_eq _, stab_eq _, stab_eq _, stab_eq _, stab_eq _, stab_eq _, stab_eq _, stab_eq _, stab_eq _, stab_eq _, stab_eq _, stab_eq _, stab_eq _, stab_eq _, stab_eq _, stab_eq _, stab_eq _, stab_eq _, stab_eq _, trivial⟩
    · refine ⟨?_, ?_, ?_, ?_, ?_, ?_, ?_, ?_, ?_, ?_, ?_, ?_, ?_, ?_, ?_, ?_, ?_, ?_, ?_, ?_, ?_, ?_, ?_, ?_, ?_, ?_, ?_, ?_, ?_, ?_, ?_, ?_, trivial⟩
      · intro a x hG hd hs K hK
        have h5 : a.tmps.getD 5 undef = u := hs 5 (by kernel_rfl)
        clear hd hs
        refine wpOp_plain rfl rfl ?_
        go_simp
        exact hK _ _ rfl hG (Below.refl _ _)
      · intro a x hG hd hs K hK
        have h43 : a.tmps.getD 43 undef = u := hd 0 43 (by kernel_rfl)
        clear hd hs
        refine wpOp_plain rfl rfl ?_
        have hst := run_string_of (P := Tryd.prog) (hs4.ext (Nat.le_refl _) hG) 28 9 5 Tryd.underlying28 Tryd.underlying5 Tryd.underlying9
        go_simp
        exact hK _ _ rfl hG (Below.refl _ _)
      · intro a x hG hd hs K hK
        have h0 : a.tmps.getD 0 undef = .int .i64 (v : Int) := hs 0 (by kernel_rfl)
        clear hd hs
        refine wpOp_plain rfl rfl ?_
        go_simp
        exact hK _ _ rfl hG (Below.refl _ _)
      · intro a x hG hd hs K hK
        have h1 : a.tmps.getD 1 undef = .int .i64 (g : Int) := hs 1 (by kernel_rfl)
        clear hd hs
        refine wpOp_plain rfl rfl ?_
        go_simp
        exact hK _ _ rfl hG (Below.refl _ _)
      · intro a x hG hd hs K hK
        have h45 : a.tmps.getD 45 undef = .int .i64 (v : Int) := hd 2 45 (by kernel_rfl)
        have h46 : a.tmps.getD 46 undef = .int .i64 (g : Int) := hd 3 46 (by kernel_rfl)
        clear hd hs
        refine wpOp_plain rfl rfl ?_
        go_simp
        refine (rlabel_any v g _ (by omega)).mono ?_
        rintro e w' ⟨rfl, hb⟩
        exact hK _ _ rfl (hG.trans (hb.mono hG.size)) hb
      · intro a x hG hd hs K hK
        have h44 : a.tmps.getD 44 undef = .string ⟨(Lb.labE v g).toArray⟩ := hd 1 44 (by kernel_rfl)
        have h47 : a.tmps.getD 47 undef = .string ⟨(Lb.labE v g).toArray⟩ := hd 4 47 (by kernel_rfl)
        clear hd hs
        refine wpOp_plain rfl rfl ?_
        go_simp
        exact hK _ _ rfl hG (Below.refl _ _)
      · intro a x hG hd hs K hK
        have h48 : a.tmps.getD 48 undef = .bool true := hd 5 48 (by kernel_rfl)
        clear hd hs
        refine wpOp_plain rfl rfl ?_
        go_simp
        exact hK _ _ rfl hG (Below.refl _ _)
      · intro a x hG hd hs K hK
        have h6 : a.tmps.getD 6 undef = .int .i64 0 := hs 6 (by kernel_rfl)
        have h49 : a.tmps.getD 49 undef = .bool true := hd 6 49 (by kernel_rfl)
        clear hd hs
        refine wpOp_yes rfl rfl rfl h49 ?_
        go_simp
        exact hK _ _ rfl hG (Below.refl _ _)
      · intro a x hG hd hs K hK
        have h50 : a.tmps.getD 50 undef = .int .i64 0 := hd 7 50 (by kernel_rfl)
        have h49 : a.tmps.getD 49 undef = .bool true := hd 6 49 (by kernel_rfl)
        clear hd hs
        refine wpOp_yes rfl rfl rfl h49 ?_
        go_simp
        exact hK _ _ rfl hG (Below.refl _ _)
      · intro a x hG hd hs K hK
        have h49 : a.tmps.getD 49 undef = .bool true := hd 6 49 (by kernel_rfl)
        have h51 : a.tmps.getD 51 undef = .bool true := hd 8 51 (by kernel_rfl)
        clear hd hs
        refine wpOp_plain rfl rfl ?_
        go_simp
        exact hK _ _ rfl hG (Below.refl _ _)
      · intro a x hG hd hs K hK
        have h52 : a.tmps.getD 52 undef = .bool true := hd 9 52 (by kernel_rfl)
        clear hd hs
        refine wpOp_plain rfl rfl ?_
        go_simp
        exact hK _ _ rfl hG (Below.refl _ _)
      · intro a x hG hd hs K hK
        have h7 : a.tmps.getD 7 undef = .int .i64 (v : Int) := hs 7 (by kernel_rfl)
        have h53 : a.tmps.getD 53 undef = .bool true := hd 10 53 (by kernel_rfl)
        clear hd hs
        refine wpOp_yes rfl rfl rfl h53 ?_
        go_simp
        exact hK _ _ rfl hG (Below.refl _ _)
      · intro a x hG hd hs K hK
        have h0 : a.tmps.getD 0 undef = .int .i64 (v : Int) := hs 0 (by kernel_rfl)
        have h53 : a.tmps.getD 53 undef = .bool true := hd 10 53 (by kernel_rfl)
        clear hd hs
        refine wpOp_yes rfl rfl rfl h53 ?_
        go_simp
        exact hK _ _ rfl hG (Below.refl _ _)
      · intro a x hG hd hs K hK
        have h54 : a.tmps.getD 54 undef = .int .i64 (v : Int) := hd 11 54 (by kernel_rfl)
        have h55 : a.tmps.getD 55 undef = .int .i64 (v : Int) := hd 12 55 (by kernel_rfl)
        have h53 : a.tmps.getD 53 undef = .bool true := hd 10 53 (by kernel_rfl)
        clear hd hs
        refine wpOp_yes rfl rfl rfl h53 ?_
        go_simp
        exact hK _ _ rfl hG (Below.refl _ _)
      · intro a x hG hd hs K hK
        have h53 : a.tmps.getD 53 undef = .bool true := hd 10 53 (by kernel_rfl)
        have h56 : a.tmps.getD 56 undef = .bool true := hd 13 56 (by kernel_rfl)
        clear hd hs
        refine wpOp_plain rfl rfl ?_
        go_simp
        exact hK _ _ rfl hG (Below.refl _ _)
      · intro a x hG hd hs K hK
        have h57 : a.tmps.getD 57 undef = .bool true := hd 14 57 (by kernel_rfl)
        clear hd hs
        refine wpOp_plain rfl rfl ?_
        go_simp
        exact hK _ _ rfl hG (Below.refl _ _)
      · intro a x hG hd hs K hK
        have h8 : a.tmps.getD 8 undef = .int .i64 (g : Int) := hs 8 (by kernel_rfl)
        have h58 : a.tmps.getD 58 undef = .bool true := hd 15 58 (by kernel_rfl)
        clear hd hs
        refine wpOp_yes rfl rfl rfl h58 ?_
        go_simp
        exact hK _ _ rfl hG (Below.refl _ _)
      · intro a x hG hd hs K hK
        have h1 : a.tmps.getD 1 undef = .int .i64 (g : Int) := hs 1 (by kernel_rfl)
        have h58 : a.tmps.getD 58 undef = .bool true := hd 15 58 (by kernel_rfl)
        clear hd hs
        refine wpOp_yes rfl rfl rfl h58 ?_
        go_simp
        exact hK _ _ rfl hG (Below.refl _ _)
      · intro a x hG hd hs K hK
        have h59 : a.tmps.getD 59 undef = .int .i64 (g : Int) := hd 16 59 (by kernel_rfl)
        have h60 : a.tmps.getD 60 undef = .int .i64 (g : Int) := hd 17 60 (by kernel_rfl)
        have h58 : a.tmps.getD 58 undef = .bool true := hd 15 58 (by kernel_rfl)
        clear hd hs
        refine wpOp_yes rfl rfl rfl h58 ?_
        go_simp
        exact hK _ _ rfl hG (Below.refl _ _)
      · intro a x hG hd hs K hK
        have h58 : a.tmps.getD 58 undef = .bool true := hd 15 58 (by kernel_rfl)
        have h61 : a.tmps.getD 61 undef = .bool true := hd 18 61 (by kernel_rfl)
        clear hd hs
        refine wpOp_plain rfl rfl ?_
        go_simp
        exact hK _ _ rfl hG (Below.refl _ _)
      · intro a x hG hd hs K hK
        have h62 : a.tmps.getD 62 undef = .bool true := hd 19 62 (by kernel_rfl)
        clear hd hs
        refine wpOp_plain rfl rfl ?_
        go_simp
        exact hK _ _ rfl hG (Below.refl _ _)
      · intro a x hG hd hs K hK
        have h9 : a.tmps.getD 9 undef = .int .i64 0 := hs 9 (by kernel_rfl)
        have h63 : a.tmps.getD 63 undef = .bool true := hd 20 63 (by kernel_rfl)
        clear hd hs
        refine wpOp_yes rfl rfl rfl h63 ?_
        go_simp
        exact hK _ _ rfl hG (Below.refl _ _)
      · intro a x hG hd hs K hK
        have h64 : a.tmps.getD 64 undef = .int .i64 0 := hd 21 64 (by kernel_rfl)
        have h63 : a.tmps.getD 63 undef = .bool true := hd 20 63 (by kernel_rfl)
        clear hd hs
        refine wpOp_yes rfl rfl rfl h63 ?_
        go_simp
        exact hK _ _ rfl hG (Below.refl _ _)
      · intro a x hG hd hs K hK
        have h63 : a.tmps.getD 63 undef = .bool true := hd 20 63 (by kernel_rfl)
        have h65 : a.tmps.getD 65 undef = .bool true := hd 22 65 (by kernel_rfl)
        clear hd hs
        refine wpOp_plain rfl rfl ?_
        go_simp
        exact hK _ _ rfl hG (Below.refl _ _)
      · intro a x hG hd hs K hK
        have h66 : a.tmps.getD 66 undef = .bool true := hd 23 66 (by kernel_rfl)
        clear hd hs
        refine wpOp_plain rfl rfl ?_
        go_simp
        exact hK _ _ rfl hG (Below.refl _ _)
      · intro a x hG hd hs K hK
        have h11 : a.tmps.getD 11 undef = .int .i64 3 := hs 11 (by kernel_rfl)
        have h67 : a.tmps.getD 67 undef = .bool true := hd 24 67 (by kernel_rfl)
        clear hd hs
        refine wpOp_yes rfl rfl rfl h67 ?_
        go_simp
        exact hK _ _ rfl hG (Below.refl _ _)
      · intro a x hG hd hs K hK
        have h68 : a.tmps.getD 68 undef = .int .i64 3 := hd 25 68 (by kernel_rfl)
        have h67 : a.tmps.getD 67 undef = .bool true := hd 24 67 (by kernel_rfl)
        clear hd hs
        refine wpOp_yes rfl rfl rfl h67 ?_
        go_simp
        exact hK _ _ rfl hG (Below.refl _ _)
      · intro a x hG hd hs K hK
        have h67 : a.tmps.getD 67 undef = .bool true := hd 24 67 (by kernel_rfl)
        have h69 : a.tmps.getD 69 undef = .bool true := hd 26 69 (by kernel_rfl)
        clear hd hs
        refine wpOp_plain rfl rfl ?_
        go_simp
        exact hK _ _ rfl hG (Below.refl _ _)
      · intro a x hG hd hs K hK
        have h70 : a.tmps.getD 70 undef = .bool true := hd 27 70 (by kernel_rfl)
        clear hd hs
        refine wpOp_plain rfl rfl ?_
        go_simp
        exact hK _ _ rfl hG (Below.refl _ _)
      · intro a x hG hd hs K hK
        have h71 : a.tmps.getD 71 undef = .bool true := hd 28 71 (by kernel_rfl)
        clear hd hs
        refine wpOp_yes rfl rfl rfl h71 ?_
        go_simp
        refine (awake_any _ ((hH.ext c4).ext hG)).mono ?_
        rintro e w' ⟨rfl, hb⟩
        exact hK _ _ rfl (hG.trans (hb.mono hG.size)) hb
      · intro a x hG hd hs K hK
        have h71 : a.tmps.getD 71 undef = .bool true := hd 28 71 (by kernel_rfl)
        have h72 : a.tmps.getD 72 undef = .bool true := hd 29 72 (by kernel_rfl)
        clear hd hs
        refine wpOp_plain rfl rfl ?_
        go_simp
        exact hK _ _ rfl hG (Below.refl _ _)
      · intro a x hG hd hs K hK
        have h73 : a.tmps.getD 73 undef = .bool true := hd 30 73 (by kernel_rfl)
        clear hd hs
        refine wpOp_plain rfl rfl ?_
        go_simp
        exact hK _ _ rfl hG (Below.refl _ _)
    · intro x hG
      rintro _ rfl _ rfl _ rfl _ rfl _ rfl _ rfl _ rfl _ rfl _ rfl _ rfl _ rfl _ rfl _ rfl _ rfl _ rfl _ rfl _ rfl _ rfl _ rfl _ rfl _ rfl _ rfl _ rfl _ rfl _ rfl _ rfl _ rfl _ rfl _ rfl _ rfl _ rfl _ rfl
      simp only [Act.put, List.setIfInBounds_toArray, List.set_cons_zero, List.set_cons_succ, REnd]
      try simp only [Exit.then]
      go_wp2
      go_ret
      exact ⟨rfl, c4.trans (hG.mono c4.size)⟩

/-- What the walk gives, for every argument and every world that holds the table. -/
theorem labelVolumes_contract (H : Type) (enc : TypeId × Value → H) (W : World) (base : Nat) (args : Array Value) (ds gs : List (DataW H)) (before : List MemPlace)
    (hval : ∀ (j : Nat) t v, Tryd.f5.params[j]? = some t → args[j]? = some v → Value.okWide Tryd.prog W .any base t v)
    (hW : DataW.Whole enc Tryd.prog Tryd.f5.params.toList Rows.labelVolumesSpec.vars false W args.toList ds gs before) (hL : laidMetH Tryd.prog Rows.labelVolumesRow.laid W) :
    Calls Tryd.prog 5 args W fun e W' => ∃ v, e = .returned v ∧ Rows.labelVolumesSpec.post enc Tryd.prog Tryd.f5 false true false false W args v W' := by
  have hW' := hW
  obtain ⟨p, q, hA0, hV, hps, hfz, hnd⟩ := hW
  have hA : DataW.TrodAll enc Tryd.prog W 0 (fun _ => true) true Tryd.f5.params.toList args.toList ds p := hA0
  rw [Tryd.params5] at hA hval
  obtain ⟨v0, vs0, d0, ds0, p0, q0, hargs, rfl, rfl, h0, r0⟩ := trodAll_cons hA
  obtain ⟨v1, vs1, d1, ds1, p1, q1, rfl, rfl, rfl, h1, r1⟩ := trodAll_cons r0
  obtain ⟨rfl, rfl, rfl⟩ := trodAll_nil r1
  obtain rfl : args = #[v0, v1] := by cases args; simp_all
  obtain ⟨rfl, rfl⟩ := trodVars_none hV
  obtain ⟨z0, rfl, rfl, rfl, wf0⟩ := open_int Tryd.underlying3 (hval 0 3 v0 rfl rfl) h0
  obtain ⟨z1, rfl, rfl, rfl, wf1⟩ := open_int Tryd.underlying3 (hval 1 3 v1 rfl rfl) h1
  clear hA0
  refine (labelVolumes_walk W z0 z1 (halves_of hL)).mono fun e W' ⟨he, hb⟩ => ?_
  subst he
  exact ⟨_, rfl, law_post laidOut (by rw [Tryd.params5]; decide +kernel) rfl Tryd.underlying4 rfl rfl hW' hb⟩

theorem labelVolumes_met (os : Os) : laidMet Tryd.prog Rows.labelVolumesRow.laid ((laidWorld os).forCall (fun _ _ => 0) ⟨#[], #[.int .i64 0, .int .i64 0], []⟩).memory :=
  laidMet_of_run' 8 (by kernel_rfl) (by kernel_rfl)
theorem labelVolumes_reads (os : Os) {H : Type} (enc : TypeId × Value → H) : ∃ places, DataW.whole enc Tryd.prog ((laidWorld os).forCall (fun _ _ => 0) ⟨#[], #[.int .i64 0, .int .i64 0], []⟩).memory Tryd.f5.params.toList Rows.labelVolumesSpec.vars false (#[.int .i64 0, .int .i64 0] : Array Value).toList 8 = some ([.lit (.int .i64 0), .lit (.int .i64 0)], [], places) :=
  ⟨[], by kernel_rfl⟩

set_option maxRecDepth 100000 in
theorem labelVolumes_lifted (os : Os) (started : os.Started) (H : Type) (enc : TypeId × Value → H) (F : Stop.Interp) :
    ReturnsInHanded {} Tryd.checked os 5 .any ((OpenSpec.ofChange Rows.labelVolumesSpec).preRow enc Tryd.prog Tryd.f5 Rows.labelVolumesRow.domain false Rows.labelVolumesRow.laid) (((OpenSpec.ofChange Rows.labelVolumesSpec).at F).post enc Tryd.prog Tryd.f5 false true false false) := by
  obtain ⟨places, hx⟩ := labelVolumes_reads os enc
  refine returnsInHanded_of_row (C := Tryd.checked) (s := OpenSpec.ofChange Rows.labelVolumesSpec) own started (by kernel_rfl) Tryd.func5
    (witness_row_at (enc := enc) (C := Tryd.checked) false (laidWorld os) #[.int .i64 0, .int .i64 0] rfl (by kernel_rfl) (by kernel_rfl) (by kernel_rfl)
      (OpenSpec.preRow_of_cond 8 hx (by kernel_rfl) (fun k hk => by cases hk) (by kernel_rfl) (labelVolumes_met os))) ?_
  intro W base args ds gs before hval hW _ _ _ hL _ _
  exact labelVolumes_contract H enc W base args ds gs before hval hW hL

theorem labelVolumes_said : Rows.LabelVolumesSaid :=
  OpenClaim.holds_of_cond 5 Tryd.f5 rfl rfl rfl rfl rfl rfl rfl ⟨rfl, rfl, rfl, rfl, rfl⟩ rfl rfl rfl rfl rfl (by kernel_rfl) Tryd.func5 (by kernel_rfl)
    (of_decide_eq_true (by kernel_rfl)) (by unfold Func.isWrapper; first | (rw [if_pos (by decide +kernel)]; kernel_rfl) | (rw [if_neg (by decide +kernel)]; exact ⟨rfl, rfl⟩))
    (fun os started H enc _ F => by rw [OpenClaim.pre_eq_preRow]; exact labelVolumes_lifted os started H enc F)

theorem labelVolumes_plain (f : FuncId) (fn : Func) (hf : Tryd.pinned.checked.prog.funcNamed "haymow/haymowlaw05.LabelVolumes" = some f) (hfn : Tryd.pinned.checked.prog.funcs[f]? = some fn) :
    false = Tryd.pinned.checked.prog.looks [] ∧ ∀ (j : Nat) t, fn.params[j]? = some t → Tryd.pinned.checked.prog.wantsStandIn t = false := by
  obtain rfl : f = 5 := Option.some.inj ((show Tryd.prog.funcNamed "haymow/haymowlaw05.LabelVolumes" = some 5 by kernel_rfl).symm.trans hf) |>.symm
  obtain rfl : fn = Tryd.f5 := (Option.some.inj (Tryd.func5.symm.trans hfn)).symm
  refine ⟨by kernel_rfl, fun j t ht => ?_⟩
  rw [Tryd.params5] at ht
  have hall : ∀ t ∈ (Tryd.f5).params.toList, Tryd.prog.wantsStandIn t = false := by rw [Tryd.params5]; decide +kernel
  exact hall t (by rw [Tryd.params5]; exact Array.mem_toList_iff.2 (Array.mem_of_getElem? ht))

/-- THE CARD. -/
theorem labelVolumes_holds : Rows.LabelVolumesCardSaid :=
  Claim7.holds_tied_plain_at .later [] _ _ _ _ labelVolumes_said (fun _ h => by cases h) (by kernel_rfl) (fun _ h => by cases h) labelVolumes_row_tie rfl ⟨rfl, rfl⟩ (by kernel_rfl) rfl labelVolumes_plain (by kernel_rfl)

end Go.Proofs.YtmcgadhahhfflaaDoor
