/-
  PathParses: where any path leads, and its parent, is the document's, or refused with its error. For every input.
-/
import Derived.Test.YtahcbgllnoopgaaPaN
import Derived.Test.YtahcbgllnoopgaaPlain
import Derived.Test.YtahcbgllnoopgaaLeaf
namespace Go.Proofs.Ytahcbgllnoopgaa
open Go.ChangeShapes Go.WideShapes Go.ChangeAt Go.RowKit Go.Lib

set_option maxRecDepth 100000 in
set_option maxHeartbeats 4000000 in
theorem pathParses_walk (w : World) (b0 : List UInt8) :
    Calls Try.prog 3 #[.string ⟨b0.toArray⟩] w fun e w' => e = .returned (.bool true) ∧ Below w.heap.size w w' := by
  have HFE := Lib.hid (fewP_any b0)
  have hbl : (b0.take 260).length ≤ 1000000 := by have := List.length_take_le 260 b0; omega
  generalize b0.take 260 = b at *
  generalize (⟨b0.toArray⟩ : ByteArray) = S0 at *
  have HPA := Lib.hid (parse_any b)
  have HRA := Lib.hid (parseR_any b)
  have HPP := Lib.hid (parent_any b)
  have HRP := Lib.hid (parentR_any b)
  have hg8 := (Pa.good_parse b).1
  have hp8 : (Pa.parent b).1.length ≤ 8 := by
    unfold Pa.parent
    split
    · simp
    · split
      · simp
      · have := hg8; rw [List.length_dropLast]; omega
  generalize (⟨b.toArray⟩ : ByteArray) = S at *
  generalize Pa.parse b = PR at *
  generalize Pa.parent b = PT at *
  obtain ⟨ns, er⟩ := PR
  obtain ⟨ps, la, ep⟩ := PT
  dsimp only at HPA HRA HPP HRP hg8 hp8
  generalize (⟨la.toArray⟩ : ByteArray) = SL at *
  go_enter Try.func3, Try.ntmps3
  go_wp2_with fail
  refine (HFE.out w).mono ?_
  rintro e w0 ⟨rfl, rfl⟩
  go_wp2_with fail
  refine (HPA.out w hbl).mono ?_
  rintro e w1 ⟨u1, rfl, hs1, b1⟩
  obtain ⟨A1, c1, rfl, _, _, _⟩ := hs1.open_
  go_wp2_with fail
  refine (HRA.out w1 hbl).mono ?_
  rintro e w2 ⟨u2, rfl, hs2, b2⟩
  obtain ⟨A2, c2, rfl, _, _, _⟩ := hs2.open_
  have hs12 := (Rds.ext hs1 (Nat.le_refl _) b2).more b2.size
  have d2 := b1.trans (b2.mono b1.size)
  clear b1 b2 hs1
  go_wp2_with fail
  refine (HPP.out w2 hbl).mono ?_
  rintro e w3 ⟨u3, rfl, hs3, b3⟩
  obtain ⟨A3, c3, rfl, _, _, _⟩ := hs3.open_
  have hs13 := (hs12.ext (Nat.le_refl _) b3).more b3.size
  have hs23 := (Rds.ext hs2 (Nat.le_refl _) b3).more b3.size
  have d3 := d2.trans (b3.mono d2.size)
  clear b3 hs12 hs2 d2
  go_wp2_with fail
  refine (HRP.out w3 hbl).mono ?_
  rintro e w4 ⟨u4, rfl, hs4, b4⟩
  obtain ⟨A4, c4, rfl, _, _, _⟩ := hs4.open_
  have hs14 := (hs13.ext (Nat.le_refl _) b4).more b4.size
  have hs24 := (hs23.ext (Nat.le_refl _) b4).more b4.size
  have hs34 := (Rds.ext hs3 (Nat.le_refl _) b4).more b4.size
  have d4 := d3.trans (b4.mono d3.size)
  clear b4 hs13 hs23 hs3 d3
  go_wp2_with fail
  refine (sameR_any _ _ ns ns w4 hs14 hs24 (by omega)).mono ?_
  rintro e w5 ⟨rfl, b5⟩
  rw [decide_eq_true (rfl : ns = ns)]
  have hs35 := (hs34.ext (Nat.le_refl _) b5).more b5.size
  have hs45 := (Rds.ext hs4 (Nat.le_refl _) b5).more b5.size
  have d5 := d4.trans (b5.mono d4.size)
  clear b5 hs14 hs24 hs34 hs4 d4
  go_wp2_with fail
  refine (sameR_any _ _ ps ps w5 hs35 hs45 (by omega)).mono ?_
  rintro e w6 ⟨rfl, b6⟩
  rw [decide_eq_true (rfl : ps = ps)]
  have d6 := d5.trans (b6.mono d5.size)
  clear b6 hs35 hs45 d5
  go_wp2_with fail
  refine (awake_any w6).mono ?_
  rintro e w7 ⟨rfl, b7⟩
  go_wp2
  go_ret
  exact ⟨rfl, d6.trans (b7.mono d6.size)⟩

/-- What the walk gives, for every argument and every world that holds the table. -/
theorem pathParses_contract (H : Type) (enc : TypeId × Value → H) (W : World) (base : Nat) (args : Array Value) (ds gs : List (DataW H)) (before : List MemPlace)
    (hval : ∀ (j : Nat) t v, Try.f3.params[j]? = some t → args[j]? = some v → Value.okWide Try.prog W .any base t v)
    (hW : DataW.Whole enc Try.prog Try.f3.params.toList Rows.pathParsesSpec.vars false W args.toList ds gs before) :
    Calls Try.prog 3 args W fun e W' => ∃ v, e = .returned v ∧ Rows.pathParsesSpec.post enc Try.prog Try.f3 false true false false W args v W' := by
  have hW' := hW
  obtain ⟨p, q, hA0, hV, hps, hfz, hnd⟩ := hW
  have hA : DataW.TrodAll enc Try.prog W 0 (fun _ => true) true Try.f3.params.toList args.toList ds p := hA0
  rw [Try.params3] at hA hval
  obtain ⟨v0, vs0, d0, ds0, p0, q0, hargs, rfl, rfl, h0, r0⟩ := trodAll_cons hA
  obtain ⟨rfl, rfl, rfl⟩ := trodAll_nil r0
  obtain rfl : args = #[v0] := by cases args; simp_all
  obtain ⟨rfl, rfl⟩ := trodVars_none hV
  obtain ⟨s0, rfl, rfl, rfl, _⟩ := Go.ChangeMaps.open_string Try.underlying9 (hval 0 9 v0 rfl rfl) h0
  obtain ⟨l0, rfl⟩ : ∃ l : List UInt8, s0 = ⟨l.toArray⟩ := ⟨s0.data.toList, by cases s0; simp⟩
  clear hA0
  refine (pathParses_walk W l0).mono fun e W' ⟨he, hb⟩ => ?_
  subst he
  exact ⟨_, rfl, law_post laidOut (by rw [Try.params3]; decide +kernel) rfl Try.underlying4 rfl rfl hW' hb⟩

set_option maxRecDepth 100000 in
theorem pathParses_lifted (os : Os) (started : os.Started) (H : Type) (enc : TypeId × Value → H) :
    ReturnsInHanded {} Try.checked os 3 .any (Rows.pathParsesSpec.pre6 enc Try.prog Try.f3 Rows.pathParsesRow.domain false) (Rows.pathParsesSpec.post enc Try.prog Try.f3 false true false false) := by
  refine returnsInHanded_of_change (C := Try.checked) own started (by kernel_rfl) Try.func3
    (ChangeSpec.witness6 (enc := enc) (C := Try.checked) false ⟨#[], #[.string .empty], []⟩ 8 (by kernel_rfl) (by kernel_rfl) (by kernel_rfl) (by kernel_rfl)) ?_
  intro W base args ds gs before hval hW _ _
  exact pathParses_contract H enc W base args ds gs before hval hW

theorem pathParses_holds : Rows.PathParsesSaid :=
  OpenClaim.holds_of_wide 3 Try.f3 rfl rfl rfl rfl rfl rfl rfl ⟨rfl, rfl, rfl, rfl, rfl⟩ rfl rfl rfl rfl rfl (by kernel_rfl) Try.func3 (by kernel_rfl)
    (of_decide_eq_true (by kernel_rfl)) (by unfold Func.isWrapper; first | (rw [if_pos (by decide +kernel)]; kernel_rfl) | (rw [if_neg (by decide +kernel)]; exact ⟨rfl, rfl⟩))
    (fun os started H enc _ => pathParses_lifted os started H enc)

end Go.Proofs.Ytahcbgllnoopgaa
