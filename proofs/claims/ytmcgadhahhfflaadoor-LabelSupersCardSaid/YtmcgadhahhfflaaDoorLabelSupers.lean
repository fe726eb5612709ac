/-
  LabelSupers: the super of any geometry is the document's, or refused, and is read as it was. For every input.
-/
import Derived.Test.YtmcgadhahhfflaaDoorLabelL
import Derived.Lib.SmallJoins
namespace Go.Proofs.YtmcgadhahhfflaaDoor
open Go.ChangeShapes Go.WideShapes Go.ChangeAt Go.RowKit

set_option maxRecDepth 100000 in
set_option maxHeartbeats 8000000 in
theorem labelSupers_walk (w : World) (d l v s : Int) (hd : -9223372036854775808 ≤ d ∧ d ≤ 9223372036854775807) (hH : Halves w) :
    Calls Tryd.prog 4 #[.agg #[.int .i64 d, .int .i64 l, .int .i64 v, .int .i64 s]] w fun e w' => e = .returned (.bool true) ∧ Below w.heap.size w w' := by
  have k0 := Blk.new w 23 #[.int .i64 d, .int .i64 l, .int .i64 v, .int .i64 s]
  have b0 := (Below.refl w.heap.size w).alloc (Nat.le_refl _) (.cells #[.int .i64 d, .int .i64 l, .int .i64 v, .int .i64 s] 23)
  cases hg : Lb.geoB d l v s with
  | false =>
    go_enter Tryd.func4, Tryd.ntmps4
    go_wp2_with fail
    generalize w.alloc (.cells #[.int .i64 d, .int .i64 l, .int .i64 v, .int .i64 s] 23) = w0 at *
    refine (super_no d l v s w0 hd hg).mono ?_
    rintro e w1 ⟨rfl, b1⟩
    have k1 := k0.ext b1
    have c1 := b0.trans (b1.mono b0.size)
    have x0 := k1.cell 0
    have x1 := k1.cell 1
    have x2 := k1.cell 2
    have x3 := k1.cell 3
    simp only [List.getElem?_cons_zero, List.getElem?_cons_succ] at x0 x1 x2 x3
    clear k0 b0 b1
    go_wp2_with fail
    refine (rgeo_any d l v s w1 hd).mono ?_
    rintro e w2 ⟨rfl, b2⟩
    rw [hg]
    have c2 := c1.trans (b2.mono c1.size)
    clear x0 x1 x2 x3 k1 c1 b2
    go_wp2_with fail
    refine (awake_any _ (hH.ext c2)).mono ?_
    rintro e w7 ⟨rfl, b7⟩
    go_wp2
    go_ret
    exact ⟨rfl, c2.trans (b7.mono c2.size)⟩
  | true =>
    have hgg : 8 ≤ d ∧ d ≤ 256 ∧ 1 ≤ l ∧ l ≤ d - 6 ∧ 0 ≤ v ∧ v ≤ 8 ∧ 1 ≤ s ∧ s ≤ 256 := by
      unfold Lb.geoB at hg
      exact of_decide_eq_true hg
    obtain ⟨d, rfl⟩ := Int.eq_ofNat_of_zero_le (show 0 ≤ d by omega)
    obtain ⟨l, rfl⟩ := Int.eq_ofNat_of_zero_le (show 0 ≤ l by omega)
    obtain ⟨v, rfl⟩ := Int.eq_ofNat_of_zero_le (show 0 ≤ v by omega)
    obtain ⟨s, rfl⟩ := Int.eq_ofNat_of_zero_le (show 0 ≤ s by omega)
    obtain ⟨q1, q2, q3, q4, q5, q6⟩ := Lb.sup_back d l v s hg
    go_enter Tryd.func4, Tryd.ntmps4
    go_wp2_with fail
    generalize w.alloc (.cells #[.int .i64 (d : Int), .int .i64 (l : Int), .int .i64 (v : Int), .int .i64 (s : Int)] 23) = w0 at *
    refine (super_yes d l v s w0 (hH.ext b0) hg).mono ?_
    rintro e w1 ⟨u, rfl, hs1, b1⟩
    have k1 := k0.ext b1
    have c1 := b0.trans (b1.mono b0.size)
    have x0 := k1.cell 0
    have x1 := k1.cell 1
    have x2 := k1.cell 2
    have x3 := k1.cell 3
    simp only [List.getElem?_cons_zero, List.getElem?_cons_succ] at x0 x1 x2 x3
    clear k0 b0 b1
    go_wp2_with fail
    refine (rgeo_any d l v s w1 hd).mono ?_
    rintro e w2 ⟨rfl, b2⟩
    rw [hg]
    have c2 := c1.trans (b2.mono c1.size)
    have k2 := k1.ext b2
    have hs2 := (hs1.ext (Nat.le_refl _) b2).more b2.size
    clear x0 x1 x2 x3 k1 c1 b2 hs1
    go_wp2_with fail
    refine (readSuper_any w2 _ _ (hH.ext c2) hs2).mono ?_
    rintro e w3 ⟨za, zb, zc, zd, rfl, hv1, b3⟩
    rw [q1] at hv1
    rw [q1]
    obtain ⟨rfl, rfl, rfl, rfl⟩ : za = d ∧ zb = l ∧ zc = v ∧ zd = s := by omega
    have c3 := c2.trans (b3.mono c2.size)
    have k3 := k2.ext b3
    have hs3 := (hs2.ext (Nat.le_refl _) b3).more b3.size
    clear k2 c2 b3 hs2 hv1
    go_wp2_with fail
    have k4 := k3.alloc (.cells #[.int .i64 (d : Int), .int .i64 (l : Int), .int .i64 (v : Int), .int .i64 (s : Int)] 23)
    have j4 := Blk.new w3 23 #[.int .i64 (d : Int), .int .i64 (l : Int), .int .i64 (v : Int), .int .i64 (s : Int)]
    have c4 := c3.alloc c3.size (.cells #[.int .i64 (d : Int), .int .i64 (l : Int), .int .i64 (v : Int), .int .i64 (s : Int)] 23)
    have hs4 : Bs (w3.alloc (.cells #[.int .i64 (d : Int), .int .i64 (l : Int), .int .i64 (v : Int), .int .i64 (s : Int)] 23)) (w3.alloc (.cells #[.int .i64 (d : Int), .int .i64 (l : Int), .int .i64 (v : Int), .int .i64 (s : Int)] 23)).heap.size u (Lb.supE d l v s) := Bs.more (Rds.alloc hs3 (Nat.le_refl _) _) (by simp)
    generalize w3.alloc (.cells #[.int .i64 (d : Int), .int .i64 (l : Int), .int .i64 (v : Int), .int .i64 (s : Int)] 23) = w4 at *
    clear k3 c3 hs3
    refine (readLabel_any w4 _ _ (hH.ext c4) hs4).mono ?_
    rintro e w5 ⟨m, n, rfl, hv3, b5⟩
    rw [q6]
    have k5 := k4.ext b5
    have j5 := j4.ext b5
    have c5 := c4.trans (b5.mono c4.size)
    have hs5 := (hs4.ext (Nat.le_refl _) b5).more b5.size
    clear k4 j4 c4 b5 hs4 hv3 q1 q2 q3 q4 q5 q6
    generalize w.heap.size = gb at k5 ⊢
    generalize w3.heap.size = gx at j5 ⊢
    go_wp2_with fail
    have hG0 : Below w5.heap.size w5 w5.drew := (Below.refl _ _).drew
    refine wp_region_list 26 [(fun y_ _ => y_ = u),
      (fun y_ _ => y_ = .string ⟨(Lb.supE d l v s).toArray⟩),
      (fun y_ _ => y_ = .agg #[.int .i64 (d : Int), .int .i64 (l : Int), .int .i64 (v : Int), .int .i64 (s : Int)]),
      (fun y_ _ => y_ = .string ⟨(Lb.supE d l v s).toArray⟩),
      (fun y_ _ => y_ = .bool true),
      (fun y_ _ => y_ = .bool true),
      (fun y_ _ => y_ = .int .i64 0),
      (fun y_ _ => y_ = .bool true),
      (fun y_ _ => y_ = .bool true),
      (fun y_ _ => y_ = .bool true),
      (fun y_ _ => y_ = .agg #[.int .i64 (d : Int), .int .i64 (l : Int), .int .i64 (v : Int), .int .i64 (s : Int)]),
      (fun y_ _ => y_ = .agg #[.int .i64 (d : Int), .int .i64 (l : Int), .int .i64 (v : Int), .int .i64 (s : Int)]),
      (fun y_ _ => y_ = .bool true),
      (fun y_ _ => y_ = .bool true),
      (fun y_ _ => y_ = .bool true),
      (fun y_ _ => y_ = .int .i64 0),
      (fun y_ _ => y_ = .bool true),
      (fun y_ _ => y_ = .bool true),
      (fun y_ _ => y_ = .bool true),
      (fun y_ _ => y_ = .int .i64 3),
      (fun y_ _ => y_ = .bool true),
      (fun y_ _ => y_ = .bool true),
      (fun y_ _ => y_ = .bool true),
      (fun y_ _ => y_ = .bool true),
      (fun y_ _ => y_ = .bool true),
      (fun y_ _ => y_ = .bool true)]
      (fun x => Below w5.heap.size w5 x) (by kernel_rfl) rfl (by kernel_rfl) ?_ ?_ ?_ ?_
    · exact hG0
    · exact ⟨stab_eq _, stab_eq _, stab_eq _, stab_eq _, stab_eq _, stab_eq _, stab_eq _, stab_eq _, stab_eq _, stab_eq _, stab_eq _, stab_eq _, stab_eq _, stab_eq _, stab_eq _, stab_eq _, stab_eq _, stab_eq _, stab_eq _, stab_eq _, stab_eq _, stab_eq _, stab_eq _, stab_eq _, stab_eq _, stab_eq _, trivial⟩
    · refine ⟨?_, ?_, ?_, ?_, ?_, ?_, ?_, ?_, ?_, ?_, ?_, ?_, ?_, ?_, ?_, ?_, ?_, ?_, ?_, ?_, ?_, ?_, ?_, ?_, ?_, ?_, trivial⟩
      · intro a x hG hd hs K hK
        have h3 : a.tmps.getD 3 undef = u := hs 3 (by kernel_rfl)
        clear hd hs
        refine wpOp_plain rfl rfl ?_
        go_simp
        exact hK _ _ rfl hG (Below.refl _ _)
      · intro a x hG hd hs K hK
        have h39 : a.tmps.getD 39 undef = u := hd 0 39 (by kernel_rfl)
        clear hd hs
        refine wpOp_plain rfl rfl ?_
        have hst := run_string_of (P := Tryd.prog) (hs5.ext (Nat.le_refl _) hG) 28 9 5 Tryd.underlying28 Tryd.underlying5 Tryd.underlying9
        go_simp
        exact hK _ _ rfl hG (Below.refl _ _)
      · intro a x hG hd hs K hK
        have h1 : a.tmps.getD 1 undef = .pointer (some ⟨gb, 0, none⟩) := hs 1 (by kernel_rfl)
        clear hd hs
        refine wpOp_plain rfl rfl ?_
        have kx := k5.ext hG
        have x0 := kx.cell 0
        have x1 := kx.cell 1
        have x2 := kx.cell 2
        have x3 := kx.cell 3
        simp only [List.getElem?_cons_zero, List.getElem?_cons_succ] at x0 x1 x2 x3
        go_simp
        exact hK _ _ rfl hG (Below.refl _ _)
      · intro a x hG hd hs K hK
        have h41 : a.tmps.getD 41 undef = .agg #[.int .i64 (d : Int), .int .i64 (l : Int), .int .i64 (v : Int), .int .i64 (s : Int)] := hd 2 41 (by kernel_rfl)
        clear hd hs
        refine wpOp_plain rfl rfl ?_
        go_simp
        refine (rsuper_any d l v s _ (by omega)).mono ?_
        rintro e w' ⟨rfl, hb⟩
        exact hK _ _ rfl (hG.trans (hb.mono hG.size)) hb
      · intro a x hG hd hs K hK
        have h40 : a.tmps.getD 40 undef = .string ⟨(Lb.supE d l v s).toArray⟩ := hd 1 40 (by kernel_rfl)
        have h42 : a.tmps.getD 42 undef = .string ⟨(Lb.supE d l v s).toArray⟩ := hd 3 42 (by kernel_rfl)
        clear hd hs
        refine wpOp_plain rfl rfl ?_
        go_simp
        exact hK _ _ rfl hG (Below.refl _ _)
      · intro a x hG hd hs K hK
        have h43 : a.tmps.getD 43 undef = .bool true := hd 4 43 (by kernel_rfl)
        clear hd hs
        refine wpOp_plain rfl rfl ?_
        go_simp
        exact hK _ _ rfl hG (Below.refl _ _)
      · intro a x hG hd hs K hK
        have h4 : a.tmps.getD 4 undef = .int .i64 0 := hs 4 (by kernel_rfl)
        have h44 : a.tmps.getD 44 undef = .bool true := hd 5 44 (by kernel_rfl)
        clear hd hs
        refine wpOp_yes rfl rfl rfl h44 ?_
        go_simp
        exact hK _ _ rfl hG (Below.refl _ _)
      · intro a x hG hd hs K hK
        have h45 : a.tmps.getD 45 undef = .int .i64 0 := hd 6 45 (by kernel_rfl)
        have h44 : a.tmps.getD 44 undef = .bool true := hd 5 44 (by kernel_rfl)
        clear hd hs
        refine wpOp_yes rfl rfl rfl h44 ?_
        go_simp
        exact hK _ _ rfl hG (Below.refl _ _)
      · intro a x hG hd hs K hK
        have h44 : a.tmps.getD 44 undef = .bool true := hd 5 44 (by kernel_rfl)
        have h46 : a.tmps.getD 46 undef = .bool true := hd 7 46 (by kernel_rfl)
        clear hd hs
        refine wpOp_plain rfl rfl ?_
        go_simp
        exact hK _ _ rfl hG (Below.refl _ _)
      · intro a x hG hd hs K hK
        have h47 : a.tmps.getD 47 undef = .bool true := hd 8 47 (by kernel_rfl)
        clear hd hs
        refine wpOp_plain rfl rfl ?_
        go_simp
        exact hK _ _ rfl hG (Below.refl _ _)
      · intro a x hG hd hs K hK
        have h5 : a.tmps.getD 5 undef = .pointer (some ⟨gx, 0, none⟩) := hs 5 (by kernel_rfl)
        have h48 : a.tmps.getD 48 undef = .bool true := hd 9 48 (by kernel_rfl)
        clear hd hs
        refine wpOp_yes rfl rfl rfl h48 ?_
        have kx := j5.ext hG
        have x0 := kx.cell 0
        have x1 := kx.cell 1
        have x2 := kx.cell 2
        have x3 := kx.cell 3
        simp only [List.getElem?_cons_zero, List.getElem?_cons_succ] at x0 x1 x2 x3
        go_simp
        exact hK _ _ rfl hG (Below.refl _ _)
      · intro a x hG hd hs K hK
        have h1 : a.tmps.getD 1 undef = .pointer (some ⟨gb, 0, none⟩) := hs 1 (by kernel_rfl)
        have h48 : a.tmps.getD 48 undef = .bool true := hd 9 48 (by kernel_rfl)
        clear hd hs
        refine wpOp_yes rfl rfl rfl h48 ?_
        have kx := k5.ext hG
        have x0 := kx.cell 0
        have x1 := kx.cell 1
        have x2 := kx.cell 2
        have x3 := kx.cell 3
        simp only [List.getElem?_cons_zero, List.getElem?_cons_succ] at x0 x1 x2 x3
        go_simp
        exact hK _ _ rfl hG (Below.refl _ _)
      · intro a x hG hd hs K hK
        have h49 : a.tmps.getD 49 undef = .agg #[.int .i64 (d : Int), .int .i64 (l : Int), .int .i64 (v : Int), .int .i64 (s : Int)] := hd 10 49 (by kernel_rfl)
        have h50 : a.tmps.getD 50 undef = .agg #[.int .i64 (d : Int), .int .i64 (l : Int), .int .i64 (v : Int), .int .i64 (s : Int)] := hd 11 50 (by kernel_rfl)
        have h48 : a.tmps.getD 48 undef = .bool true := hd 9 48 (by kernel_rfl)
        clear hd hs
        refine wpOp_yes rfl rfl rfl h48 ?_
        go_simp
        exact hK _ _ rfl hG (Below.refl _ _)
      · intro a x hG hd hs K hK
        have h48 : a.tmps.getD 48 undef = .bool true := hd 9 48 (by kernel_rfl)
        have h51 : a.tmps.getD 51 undef = .bool true := hd 12 51 (by kernel_rfl)
        clear hd hs
        refine wpOp_plain rfl rfl ?_
        go_simp
        exact hK _ _ rfl hG (Below.refl _ _)
      · intro a x hG hd hs K hK
        have h52 : a.tmps.getD 52 undef = .bool true := hd 13 52 (by kernel_rfl)
        clear hd hs
        refine wpOp_plain rfl rfl ?_
        go_simp
        exact hK _ _ rfl hG (Below.refl _ _)
      · intro a x hG hd hs K hK
        have h6 : a.tmps.getD 6 undef = .int .i64 0 := hs 6 (by kernel_rfl)
        have h53 : a.tmps.getD 53 undef = .bool true := hd 14 53 (by kernel_rfl)
        clear hd hs
        refine wpOp_yes rfl rfl rfl h53 ?_
        go_simp
        exact hK _ _ rfl hG (Below.refl _ _)
      · intro a x hG hd hs K hK
        have h54 : a.tmps.getD 54 undef = .int .i64 0 := hd 15 54 (by kernel_rfl)
        have h53 : a.tmps.getD 53 undef = .bool true := hd 14 53 (by kernel_rfl)
        clear hd hs
        refine wpOp_yes rfl rfl rfl h53 ?_
        go_simp
        exact hK _ _ rfl hG (Below.refl _ _)
      · intro a x hG hd hs K hK
        have h53 : a.tmps.getD 53 undef = .bool true := hd 14 53 (by kernel_rfl)
        have h55 : a.tmps.getD 55 undef = .bool true := hd 16 55 (by kernel_rfl)
        clear hd hs
        refine wpOp_plain rfl rfl ?_
        go_simp
        exact hK _ _ rfl hG (Below.refl _ _)
      · intro a x hG hd hs K hK
        have h56 : a.tmps.getD 56 undef = .bool true := hd 17 56 (by kernel_rfl)
        clear hd hs
        refine wpOp_plain rfl rfl ?_
        go_simp
        exact hK _ _ rfl hG (Below.refl _ _)
      · intro a x hG hd hs K hK
        have h9 : a.tmps.getD 9 undef = .int .i64 3 := hs 9 (by kernel_rfl)
        have h57 : a.tmps.getD 57 undef = .bool true := hd 18 57 (by kernel_rfl)
        clear hd hs
        refine wpOp_yes rfl rfl rfl h57 ?_
        go_simp
        exact hK _ _ rfl hG (Below.refl _ _)
      · intro a x hG hd hs K hK
        have h58 : a.tmps.getD 58 undef = .int .i64 3 := hd 19 58 (by kernel_rfl)
        have h57 : a.tmps.getD 57 undef = .bool true := hd 18 57 (by kernel_rfl)
        clear hd hs
        refine wpOp_yes rfl rfl rfl h57 ?_
        go_simp
        exact hK _ _ rfl hG (Below.refl _ _)
      · intro a x hG hd hs K hK
        have h57 : a.tmps.getD 57 undef = .bool true := hd 18 57 (by kernel_rfl)
        have h59 : a.tmps.getD 59 undef = .bool true := hd 20 59 (by kernel_rfl)
        clear hd hs
        refine wpOp_plain rfl rfl ?_
        go_simp
        exact hK _ _ rfl hG (Below.refl _ _)
      · intro a x hG hd hs K hK
        have h60 : a.tmps.getD 60 undef = .bool true := hd 21 60 (by kernel_rfl)
        clear hd hs
        refine wpOp_plain rfl rfl ?_
        go_simp
        exact hK _ _ rfl hG (Below.refl _ _)
      · intro a x hG hd hs K hK
        have h61 : a.tmps.getD 61 undef = .bool true := hd 22 61 (by kernel_rfl)
        clear hd hs
        refine wpOp_yes rfl rfl rfl h61 ?_
        go_simp
        refine (awake_any _ ((hH.ext c5).ext hG)).mono ?_
        rintro e w' ⟨rfl, hb⟩
        exact hK _ _ rfl (hG.trans (hb.mono hG.size)) hb
      · intro a x hG hd hs K hK
        have h61 : a.tmps.getD 61 undef = .bool true := hd 22 61 (by kernel_rfl)
        have h62 : a.tmps.getD 62 undef = .bool true := hd 23 62 (by kernel_rfl)
        clear hd hs
        refine wpOp_plain rfl rfl ?_
        go_simp
        exact hK _ _ rfl hG (Below.refl _ _)
      · intro a x hG hd hs K hK
        have h63 : a.tmps.getD 63 undef = .bool true := hd 24 63 (by kernel_rfl)
        clear hd hs
        refine wpOp_plain rfl rfl ?_
        go_simp
        exact hK _ _ rfl hG (Below.refl _ _)
    · intro x hG
      rintro _ rfl _ rfl _ rfl _ rfl _ rfl _ rfl _ rfl _ rfl _ rfl _ rfl _ rfl _ rfl _ rfl _ rfl _ rfl _ rfl _ rfl _ rfl _ rfl _ rfl _ rfl _ rfl _ rfl _ rfl _ rfl _ rfl
      simp only [Act.put, List.setIfInBounds_toArray, List.set_cons_zero, List.set_cons_succ, REnd]
      try simp only [Exit.then]
      go_wp2
      go_ret
      exact ⟨rfl, c5.trans (hG.mono c5.size)⟩

/-- What the walk gives, for every argument and every world that holds the table. -/
theorem labelSupers_contract (H : Type) (enc : TypeId × Value → H) (W : World) (base : Nat) (args : Array Value) (ds gs : List (DataW H)) (before : List MemPlace)
    (hval : ∀ (j : Nat) t v, Tryd.f4.params[j]? = some t → args[j]? = some v → Value.okWide Tryd.prog W .any base t v)
    (hW : DataW.Whole enc Tryd.prog Tryd.f4.params.toList Rows.labelSupersSpec.vars false W args.toList ds gs before) (hL : laidMetH Tryd.prog Rows.labelSupersRow.laid W) :
    Calls Tryd.prog 4 args W fun e W' => ∃ v, e = .returned v ∧ Rows.labelSupersSpec.post enc Tryd.prog Tryd.f4 false true false false W args v W' := by
  have hW' := hW
  obtain ⟨p, q, hA0, hV, hps, hfz, hnd⟩ := hW
  have hA : DataW.TrodAll enc Tryd.prog W 0 (fun _ => true) true Tryd.f4.params.toList args.toList ds p := hA0
  rw [Tryd.params4] at hA hval
  obtain ⟨v0, vs0, d0, ds0, p0, q0, hargs, rfl, rfl, h0, r0⟩ := trodAll_cons hA
  obtain ⟨rfl, rfl, rfl⟩ := trodAll_nil r0
  obtain rfl : args = #[v0] := by cases args; simp_all
  obtain ⟨rfl, rfl⟩ := trodVars_none hV
  obtain ⟨va, vb, vc, vd, ya, yb, yc, yd, n, rfl, rfl, rfl, ta, tb, tc, td⟩ := Joins.open_agg4 Tryd.underlying23 (by kernel_rfl) (by kernel_rfl) (hval 0 23 v0 rfl rfl) h0
  obtain ⟨za, hza, _, wfa⟩ := DataW.trod_int Tryd.underlying3 ta
  obtain ⟨zb, hzb, _, wfb⟩ := DataW.trod_int Tryd.underlying3 tb
  obtain ⟨zc, hzc, _, wfc⟩ := DataW.trod_int Tryd.underlying3 tc
  obtain ⟨zd, hzd, _, wfd⟩ := DataW.trod_int Tryd.underlying3 td
  simp only [List.cons.injEq, and_true] at hza hzb hzc hzd
  subst hza hzb hzc hzd
  clear hA0
  refine (labelSupers_walk W za zb zc zd (wf_i64 wfa) (halves_of hL)).mono fun e W' ⟨he, hb⟩ => ?_
  subst he
  exact ⟨_, rfl, law_post laidOut (by rw [Tryd.params4]; decide +kernel) rfl Tryd.underlying4 rfl rfl hW' hb⟩

theorem labelSupers_met (os : Os) : laidMet Tryd.prog Rows.labelSupersRow.laid ((laidWorld os).forCall (fun _ _ => 0) ⟨#[], #[.agg #[.int .i64 0, .int .i64 0, .int .i64 0, .int .i64 0]], []⟩).memory :=
  laidMet_of_run' 8 (by kernel_rfl) (by kernel_rfl)
theorem labelSupers_reads (os : Os) {H : Type} (enc : TypeId × Value → H) : ∃ places, DataW.whole enc Tryd.prog ((laidWorld os).forCall (fun _ _ => 0) ⟨#[], #[.agg #[.int .i64 0, .int .i64 0, .int .i64 0, .int .i64 0]], []⟩).memory Tryd.f4.params.toList Rows.labelSupersSpec.vars false (#[.agg #[.int .i64 0, .int .i64 0, .int .i64 0, .int .i64 0]] : Array Value).toList 8 = some ([.agg [.lit (.int .i64 0), .lit (.int .i64 0), .lit (.int .i64 0), .lit (.int .i64 0)]], [], places) :=
  ⟨[], by kernel_rfl⟩

set_option maxRecDepth 100000 in
theorem labelSupers_lifted (os : Os) (started : os.Started) (H : Type) (enc : TypeId × Value → H) (F : Stop.Interp) :
    ReturnsInHanded {} Tryd.checked os 4 .any ((OpenSpec.ofChange Rows.labelSupersSpec).preRow enc Tryd.prog Tryd.f4 Rows.labelSupersRow.domain false Rows.labelSupersRow.laid) (((OpenSpec.ofChange Rows.labelSupersSpec).at F).post enc Tryd.prog Tryd.f4 false true false false) := by
  obtain ⟨places, hx⟩ := labelSupers_reads os enc
  refine returnsInHanded_of_row (C := Tryd.checked) (s := OpenSpec.ofChange Rows.labelSupersSpec) own started (by kernel_rfl) Tryd.func4
    (witness_row_at (enc := enc) (C := Tryd.checked) false (laidWorld os) #[.agg #[.int .i64 0, .int .i64 0, .int .i64 0, .int .i64 0]] rfl (by kernel_rfl) (by kernel_rfl) (by kernel_rfl)
      (OpenSpec.preRow_of_cond 8 hx (by kernel_rfl) (fun k hk => by cases hk) (by kernel_rfl) (labelSupers_met os))) ?_
  intro W base args ds gs before hval hW _ _ _ hL _ _
  exact labelSupers_contract H enc W base args ds gs before hval hW hL

theorem labelSupers_said : Rows.LabelSupersSaid :=
  OpenClaim.holds_of_cond 4 Tryd.f4 rfl rfl rfl rfl rfl rfl rfl ⟨rfl, rfl, rfl, rfl, rfl⟩ rfl rfl rfl rfl rfl (by kernel_rfl) Tryd.func4 (by kernel_rfl)
    (of_decide_eq_true (by kernel_rfl)) (by unfold Func.isWrapper; first | (rw [if_pos (by decide +kernel)]; kernel_rfl) | (rw [if_neg (by decide +kernel)]; exact ⟨rfl, rfl⟩))
    (fun os started H enc _ F => by rw [OpenClaim.pre_eq_preRow]; exact labelSupers_lifted os started H enc F)

theorem labelSupers_plain (f : FuncId) (fn : Func) (hf : Tryd.pinned.checked.prog.funcNamed "haymow/haymowlaw05.LabelSupers" = some f) (hfn : Tryd.pinned.checked.prog.funcs[f]? = some fn) :
    false = Tryd.pinned.checked.prog.looks [] ∧ ∀ (j : Nat) t, fn.params[j]? = some t → Tryd.pinned.checked.prog.wantsStandIn t = false := by
  obtain rfl : f = 4 := Option.some.inj ((show Tryd.prog.funcNamed "haymow/haymowlaw05.LabelSupers" = some 4 by kernel_rfl).symm.trans hf) |>.symm
  obtain rfl : fn = Tryd.f4 := (Option.some.inj (Tryd.func4.symm.trans hfn)).symm
  refine ⟨by kernel_rfl, fun j t ht => ?_⟩
  rw [Tryd.params4] at ht
  have hall : ∀ t ∈ (Tryd.f4).params.toList, Tryd.prog.wantsStandIn t = false := by rw [Tryd.params4]; decide +kernel
  exact hall t (by rw [Tryd.params4]; exact Array.mem_toList_iff.2 (Array.mem_of_getElem? ht))

/-- THE CARD. -/
theorem labelSupers_holds : Rows.LabelSupersCardSaid :=
  Claim7.holds_tied_plain_at .later [] _ _ _ _ labelSupers_said (fun _ h => by cases h) (by kernel_rfl) (fun _ h => by cases h) labelSupers_row_tie rfl ⟨rfl, rfl⟩ (by kernel_rfl) rfl labelSupers_plain (by kernel_rfl)

end Go.Proofs.YtmcgadhahhfflaaDoor
