/-
  PathJoins: the path of any names is the document's, or refused, and is parsed as it was; which names are under which is as it says. For every input.
-/
import Derived.Test.YtahcbgllnoopgaaPaL
namespace Go.Proofs.Ytahcbgllnoopgaa
open Go.ChangeShapes Go.WideShapes Go.ChangeAt Go.RowKit Go.Lib

theorem join_short (l : List (List UInt8)) (h : ∀ x ∈ l, x.length ≤ 60) (h10 : l.length ≤ 10) : (Pa.join l).1.length ≤ 610 := by
  rw [join_parts]
  split
  · split
    · simp
    · dsimp only
      split
      · simp
      · have := jn_len l h; omega
  · simp

set_option maxRecDepth 100000 in
set_option maxHeartbeats 4000000 in
theorem pathJoins_walk (w : World) (v u : Value) (l0 t0 : List (List UInt8)) (hl0 : Strs w w.heap.size v l0) (ht0 : Strs w w.heap.size u t0) :
    Calls Try.prog 6 #[v, u] w fun e w' => e = .returned (.bool true) ∧ Below w.heap.size w w' := by
  obtain ⟨A, c, rfl, _, _, _⟩ := hl0.open_
  obtain ⟨A0, c0, rfl, _, _, _⟩ := ht0.open_
  go_enter Try.func6, Try.ntmps6
  go_wp2_with fail
  refine (names_any _ l0 w hl0).mono ?_
  rintro e w1 ⟨u1, rfl, hs1, b1⟩
  have ht1 := (Rds.ext ht0 (Nat.le_refl _) b1).more b1.size
  have hl10 := names_len l0
  have HE60 := Lib.hid (names_each l0)
  generalize namesL l0 = l at *
  obtain ⟨A1, c1, rfl, _, _, _⟩ := hs1.open_
  clear hl0 ht0
  go_wp2_with fail
  refine (names_any _ t0 w1 ht1).mono ?_
  rintro e w2 ⟨u2, rfl, hs2, b2⟩
  generalize namesL t0 = t at *
  obtain ⟨A2, c2, rfl, _, _, _⟩ := hs2.open_
  have hs12 := (Rds.ext hs1 (Nat.le_refl _) b2).more b2.size
  have d2 := b1.trans (b2.mono b1.size)
  clear b1 b2 hs1 ht1
  have HJ := Lib.hid (join_any (.slice A1 l.length c1) l)
  have HJR := Lib.hid (joinR_any (.slice A1 l.length c1) l)
  have HPJ := Lib.hid (parse_join l)
  have hsh := join_short l HE60.out hl10
  generalize Pa.join l = PJ at *
  obtain ⟨s, er⟩ := PJ
  dsimp only at HJ HJR hsh
  have HPA := Lib.hid (parse_any s)
  have hsz := ba_size s
  generalize (⟨s.toArray⟩ : ByteArray) = S at *
  go_wp2_with fail
  refine (HJ.out w2 hs12 HE60.out hl10).mono ?_
  rintro e w3 ⟨rfl, b3⟩
  have hs13 := (hs12.ext (Nat.le_refl _) b3).more b3.size
  have hs23 := (Rds.ext hs2 (Nat.le_refl _) b3).more b3.size
  have d3 := d2.trans (b3.mono d2.size)
  clear b3 hs12 hs2 d2 HJ
  go_wp2_with fail
  refine (HJR.out w3 hs13 HE60.out hl10).mono ?_
  rintro e w4 ⟨rfl, b4⟩
  have hs14 := (hs13.ext (Nat.le_refl _) b4).more b4.size
  have hs24 := (hs23.ext (Nat.le_refl _) b4).more b4.size
  have d4 := d3.trans (b4.mono d3.size)
  clear b4 hs13 hs23 d3 HJR
  go_wp2_with fail
  refine (under_any _ _ l t w4 hs14 hs24).mono ?_
  rintro e w5 ⟨rfl, b5⟩
  have hs15 := (hs14.ext (Nat.le_refl _) b5).more b5.size
  have hs25 := (hs24.ext (Nat.le_refl _) b5).more b5.size
  have d5 := d4.trans (b5.mono d4.size)
  clear b5 hs14 hs24 d4
  have HUR := Lib.hid (underR_any _ _ l t w5 hs15 hs25)
  generalize Pa.under l t = un at *
  go_wp2_with fail
  refine HUR.out.mono ?_
  rintro e w6 ⟨rfl, b6⟩
  have hs16 := (hs15.ext (Nat.le_refl _) b6).more b6.size
  have d6 := d5.trans (b6.mono d5.size)
  clear b6 hs15 hs25 d5 HUR
  have hun : (un != un) = false := by cases un <;> rfl
  by_cases her : er = 0
  rotate_left
  · have hz : ((er : Int) != 0) = true := by rw [bne_iff_ne]; omega
    clear her
    go_wp2_with fail
    refine (awake_any w6).mono ?_
    rintro e w7 ⟨rfl, b7⟩
    go_wp2
    go_ret
    exact ⟨rfl, d6.trans (b7.mono d6.size)⟩
  subst her
  by_cases h200 : 200 < s.length
  · have h2 : (200 : Int) < (s.length : Int) := by omega
    go_wp2_with fail
    refine (awake_any w6).mono ?_
    rintro e w7 ⟨rfl, b7⟩
    go_wp2
    go_ret
    exact ⟨rfl, d6.trans (b7.mono d6.size)⟩
  have h2 : ¬ (200 : Int) < (s.length : Int) := by omega
  have HPE := Lib.hid (HPJ.out s rfl (by omega))
  rw [HPE.out] at HPA
  dsimp only at HPA
  clear h200 HPJ
  go_wp2_with fail
  refine (HPA.out w6 (by omega)).mono ?_
  rintro e w7 ⟨u7, rfl, hs7, b7⟩
  obtain ⟨A7, c7, rfl, _, _, _⟩ := hs7.open_
  have hs17 := (hs16.ext (Nat.le_refl _) b7).more b7.size
  have d7 := d6.trans (b7.mono d6.size)
  clear b7 hs16 d6 HPA
  go_wp2_with fail
  refine (sameR_any _ _ l l w7 hs7 hs17 (by omega)).mono ?_
  rintro e w8 ⟨rfl, b8⟩
  rw [decide_eq_true (rfl : l = l)]
  have d8 := d7.trans (b8.mono d7.size)
  clear b8 hs7 hs17 d7
  go_wp2_with fail
  refine (awake_any w8).mono ?_
  rintro e w9 ⟨rfl, b9⟩
  go_wp2
  go_ret
  exact ⟨rfl, d8.trans (b9.mono d8.size)⟩

/-- What the walk gives, for every argument and every world that holds the table. -/
theorem pathJoins_contract (H : Type) (enc : TypeId × Value → H) (W : World) (base : Nat) (args : Array Value) (ds gs : List (DataW H)) (before : List MemPlace)
    (hval : ∀ (j : Nat) t v, Try.f6.params[j]? = some t → args[j]? = some v → Value.okWide Try.prog W .any base t v)
    (hW : DataW.Whole enc Try.prog Try.f6.params.toList Rows.pathJoinsSpec.vars false W args.toList ds gs before) :
    Calls Try.prog 6 args W fun e W' => ∃ v, e = .returned v ∧ Rows.pathJoinsSpec.post enc Try.prog Try.f6 false true false false W args v W' := by
  have hW' := hW
  obtain ⟨p, q, hA0, hV, hps, hfz, hnd⟩ := hW
  have hA : DataW.TrodAll enc Try.prog W 0 (fun _ => true) true Try.f6.params.toList args.toList ds p := hA0
  rw [Try.params6] at hA hval
  obtain ⟨v0, vs0, d0, ds0, p0, q0, hargs, rfl, rfl, h0, r0⟩ := trodAll_cons hA
  obtain ⟨v1, vs1, d1, ds1, p1, q1, rfl, rfl, rfl, h1, r1⟩ := trodAll_cons r0
  obtain ⟨rfl, rfl, rfl⟩ := trodAll_nil r1
  obtain rfl : args = #[v0, v1] := by cases args; simp_all
  obtain ⟨rfl, rfl⟩ := trodVars_none hV
  obtain ⟨l0, b0⟩ := strs_of_trod (hval 0 23 v0 rfl rfl) h0
  obtain ⟨l1, b1⟩ := strs_of_trod (hval 1 23 v1 rfl rfl) h1
  clear hA0
  refine (pathJoins_walk W v0 v1 l0 l1 b0 b1).mono fun e W' ⟨he, hb⟩ => ?_
  subst he
  exact ⟨_, rfl, law_post laidOut (by rw [Try.params6]; decide +kernel) rfl Try.underlying4 rfl rfl hW' hb⟩

set_option maxRecDepth 100000 in
theorem pathJoins_lifted (os : Os) (started : os.Started) (H : Type) (enc : TypeId × Value → H) :
    ReturnsInHanded {} Try.checked os 6 .any (Rows.pathJoinsSpec.pre6 enc Try.prog Try.f6 Rows.pathJoinsRow.domain false) (Rows.pathJoinsSpec.post enc Try.prog Try.f6 false true false false) := by
  refine returnsInHanded_of_change (C := Try.checked) own started (by kernel_rfl) Try.func6
    (ChangeSpec.witness6 (enc := enc) (C := Try.checked) false ⟨#[], #[.slice none 0 0, .slice none 0 0], []⟩ 8 (by kernel_rfl) (by kernel_rfl) (by kernel_rfl) (by kernel_rfl)) ?_
  intro W base args ds gs before hval hW _ _
  exact pathJoins_contract H enc W base args ds gs before hval hW

theorem pathJoins_holds : Rows.PathJoinsSaid :=
  OpenClaim.holds_of_wide 6 Try.f6 rfl rfl rfl rfl rfl rfl rfl ⟨rfl, rfl, rfl, rfl, rfl⟩ rfl rfl rfl rfl rfl (by kernel_rfl) Try.func6 (by kernel_rfl)
    (of_decide_eq_true (by kernel_rfl)) (by unfold Func.isWrapper; first | (rw [if_pos (by decide +kernel)]; kernel_rfl) | (rw [if_neg (by decide +kernel)]; exact ⟨rfl, rfl⟩))
    (fun os started H enc _ => pathJoins_lifted os started H enc)

end Go.Proofs.Ytahcbgllnoopgaa
