/-
  TitleFolds: a text folded is as long, has as many runes, is folded itself, and is a name just if the text is. For every input.
-/
import Derived.Test.YtkgegjifnegknaaTitleL
import Derived.Test.YtkgegjifnegknaaPlain
import Derived.ChangeMaps5
namespace Go.Proofs.Ytkgegjifnegknaa
open Go.ChangeShapes Go.WideShapes Go.ChangeAt Go.RowKit

set_option maxHeartbeats 2000000 in
theorem titleFolds_walk (w : World) (l : List UInt8) :
    Calls Try.prog 5 #[.string ⟨l.toArray⟩] w fun e w' => e = .returned (.bool true) ∧ Below w.heap.size w w' := by
  go_enter Try.func5, Try.ntmps5
  go_wp2_with fail
  refine (few_any l _).mono ?_
  rintro e w' ⟨rfl, rfl⟩
  have hl : (l.take 200).length ≤ 200 := by rw [List.length_take]; omega
  generalize l.take 200 = q at *
  have hfl := Tl.length_fold q
  go_wp2_with fail
  refine (foldT_any q _ (by omega)).mono ?_
  rintro e w1 ⟨rfl, b1⟩
  go_wp2_with fail
  refine (count_any q _ (by omega)).mono ?_
  rintro e w2 ⟨rfl, b2⟩
  have c2 := b1.trans (b2.mono b1.size)
  go_wp2_with fail
  refine (count_any (Tl.fold q) _ (by omega)).mono ?_
  rintro e w3 ⟨rfl, b3⟩
  have c3 := c2.trans (b3.mono c2.size)
  rw [(Tl.cnt_fold q).1, (Tl.cnt_fold q).2]
  generalize Tl.cntR q = R
  generalize Tl.cntO q = O
  have hs : (((⟨(Tl.fold q).toArray⟩ : ByteArray).size : Int) == ((⟨q.toArray⟩ : ByteArray).size : Int)) = true := by rw [ba_size, ba_size, hfl]; simp
  have HFF := Lib.hid (Tl.fold_fold q)
  have HIN := Lib.hid (Tl.isN_fold q)
  have H4 : ∀ W, Calls Try.prog 16 #[.string ⟨(Tl.fold q).toArray⟩] W fun e w' => e = .returned (.string ⟨(Tl.fold q).toArray⟩) ∧ Below W.heap.size W w' := fun W => by
    have := foldT_any (Tl.fold q) W (by omega)
    rw [HFF.out] at this
    exact this
  have H5 : ∀ W, Calls Try.prog 13 #[.string ⟨(Tl.fold q).toArray⟩] W fun e w' => e = .returned (.bool (Tl.isN q)) ∧ Below W.heap.size W w' := fun W => by
    have := is_any (Tl.fold q) W (by omega)
    rw [HIN.out] at this
    exact this
  have H6 : ∀ W, Calls Try.prog 13 #[.string ⟨q.toArray⟩] W fun e w' => e = .returned (.bool (Tl.isN q)) ∧ Below W.heap.size W w' := fun W => is_any q W (by omega)
  generalize (⟨(Tl.fold q).toArray⟩ : ByteArray) = F at *
  generalize (⟨q.toArray⟩ : ByteArray) = Q at *
  generalize Tl.isN q = B at *
  clear HFF HIN hfl b1 b2 b3 c2
  have HH4 := Lib.hid H4
  have HH5 := Lib.hid H5
  have HH6 := Lib.hid H6
  clear H4 H5 H6
  go_wp2_with fail
  refine (HH4.out _).mono ?_
  rintro e w4 ⟨rfl, b4⟩
  have c4 := c3.trans (b4.mono c3.size)
  go_wp2_with fail
  refine (HH5.out _).mono ?_
  rintro e w5 ⟨rfl, b5⟩
  have c5 := c4.trans (b5.mono c4.size)
  go_wp2_with fail
  refine (HH6.out _).mono ?_
  rintro e w6 ⟨rfl, b6⟩
  have c6 := c5.trans (b6.mono c5.size)
  clear c3 c4 c5 b4 b5 b6
  go_wp2_with fail
  refine (awakeT_any _).mono ?_
  rintro e w7 ⟨rfl, b7⟩
  go_wp2
  go_ret
  exact ⟨rfl, c6.trans (b7.mono c6.size)⟩

/-- What the walk gives, for every argument and every world that holds the table. -/
theorem titleFolds_contract (H : Type) (enc : TypeId × Value → H) (W : World) (base : Nat) (args : Array Value) (ds gs : List (DataW H)) (before : List MemPlace)
    (hval : ∀ (j : Nat) t v, Try.f5.params[j]? = some t → args[j]? = some v → Value.okWide Try.prog W .any base t v)
    (hW : DataW.Whole enc Try.prog Try.f5.params.toList Rows.titleFoldsSpec.vars false W args.toList ds gs before) :
    Calls Try.prog 5 args W fun e W' => ∃ v, e = .returned v ∧ Rows.titleFoldsSpec.post enc Try.prog Try.f5 false true false false W args v W' := by
  have hW' := hW
  obtain ⟨p, q, hA0, hV, hps, hfz, hnd⟩ := hW
  have hA : DataW.TrodAll enc Try.prog W 0 (fun _ => true) true Try.f5.params.toList args.toList ds p := hA0
  rw [Try.params5] at hA hval
  obtain ⟨v0, vs0, d0, ds0, p0, q0, hargs, rfl, rfl, h0, r0⟩ := trodAll_cons hA
  obtain ⟨rfl, rfl, rfl⟩ := trodAll_nil r0
  obtain rfl : args = #[v0] := by cases args; simp_all
  obtain ⟨rfl, rfl⟩ := trodVars_none hV
  obtain ⟨s0, rfl, rfl, rfl, _⟩ := Go.ChangeMaps.open_string Try.underlying9 (hval 0 9 v0 rfl rfl) h0
  obtain ⟨l0, rfl⟩ : ∃ l : List UInt8, s0 = ⟨l.toArray⟩ := ⟨s0.data.toList, by cases s0; simp⟩
  clear hA0
  refine (titleFolds_walk W l0).mono fun e W' ⟨he, hb⟩ => ?_
  subst he
  exact ⟨_, rfl, law_post laidOut (by rw [Try.params5]; decide +kernel) rfl Try.underlying4 rfl rfl hW' hb⟩

set_option maxRecDepth 100000 in
theorem titleFolds_lifted (os : Os) (started : os.Started) (H : Type) (enc : TypeId × Value → H) :
    ReturnsInHanded {} Try.checked os 5 .any (Rows.titleFoldsSpec.pre6 enc Try.prog Try.f5 Rows.titleFoldsRow.domain false) (Rows.titleFoldsSpec.post enc Try.prog Try.f5 false true false false) := by
  refine returnsInHanded_of_change (C := Try.checked) own started (by kernel_rfl) Try.func5
    (ChangeSpec.witness6 (enc := enc) (C := Try.checked) false ⟨#[], #[.string .empty], []⟩ 8 (by kernel_rfl) (by kernel_rfl) (by kernel_rfl) (by kernel_rfl)) ?_
  intro W base args ds gs before hval hW _ _
  exact titleFolds_contract H enc W base args ds gs before hval hW

theorem titleFolds_holds : Rows.TitleFoldsSaid :=
  OpenClaim.holds_of_wide 5 Try.f5 rfl rfl rfl rfl rfl rfl rfl ⟨rfl, rfl, rfl, rfl, rfl⟩ rfl rfl rfl rfl rfl (by kernel_rfl) Try.func5 (by kernel_rfl)
    (of_decide_eq_true (by kernel_rfl)) (by unfold Func.isWrapper; first | (rw [if_pos (by decide +kernel)]; kernel_rfl) | (rw [if_neg (by decide +kernel)]; exact ⟨rfl, rfl⟩))
    (fun os started H enc _ => titleFolds_lifted os started H enc)

end Go.Proofs.Ytkgegjifnegknaa
