/-
  TitleOrder: of any three texts the order is one: as many as come ahead either way, and on. For every input.
-/
import Derived.Test.YtkgegjifnegknaaTitleL
import Derived.Test.YtkgegjifnegknaaPlain
import Derived.ChangeMaps5
namespace Go.Proofs.Ytkgegjifnegknaa
open Go.ChangeShapes Go.WideShapes Go.ChangeAt Go.RowKit

set_option maxHeartbeats 2000000 in
theorem titleOrder_walk (w : World) (l m n : List UInt8) :
    Calls Try.prog 8 #[.string ⟨l.toArray⟩, .string ⟨m.toArray⟩, .string ⟨n.toArray⟩] w fun e w' => e = .returned (.bool true) ∧ Below w.heap.size w w' := by
  go_enter Try.func8, Try.ntmps8
  go_wp2_with (go_at_call 10; refine (few_any _ _).mono ?_; rintro e w' ⟨rfl, rfl⟩)
  generalize l.take 200 = a
  generalize m.take 200 = b
  generalize n.take 200 = c
  refine (order_any a b _).mono ?_
  rintro e w' ⟨rfl, rfl⟩
  go_wp2_with fail
  refine (order_any b c _).mono ?_
  rintro e w' ⟨rfl, rfl⟩
  go_wp2_with fail
  refine (order_any a c _).mono ?_
  rintro e w' ⟨rfl, rfl⟩
  have hba := order_any b a w
  have hsw : Tl.ord b a = - Tl.ord a b := Tl.cmpI_swap _ _
  rw [hsw] at hba
  have h1 : -1 ≤ Tl.ord a b ∧ Tl.ord a b ≤ 1 := Tl.cmpI_bound _ _
  have h2 : -1 ≤ Tl.ord b c ∧ Tl.ord b c ≤ 1 := Tl.cmpI_bound _ _
  have h3 : -1 ≤ Tl.ord a c ∧ Tl.ord a c ≤ 1 := Tl.cmpI_bound _ _
  have h4 : Tl.ord a b ≤ 0 → Tl.ord b c ≤ 0 → Tl.ord a c ≤ 0 := Tl.cmpI_trans _ _ _
  have h5 : ((⟨a.toArray⟩ : ByteArray).toList == (⟨b.toArray⟩ : ByteArray).toList) = (Tl.ord a b == 0) := by
    rw [ba_toList, ba_toList, Bool.eq_iff_iff, beq_iff_eq, beq_iff_eq, Tl.ord_zero]
  generalize Tl.ord a b = x at *
  generalize Tl.ord b c = y at *
  generalize Tl.ord a c = z at *
  generalize (⟨a.toArray⟩ : ByteArray) = A at *
  generalize (⟨b.toArray⟩ : ByteArray) = B at *
  generalize (⟨c.toArray⟩ : ByteArray) = C at *
  have HB := Lib.hid hba
  clear hba hsw
  rcases (by omega : x = -1 ∨ x = 0 ∨ x = 1) with rfl | rfl | rfl <;> rcases (by omega : y = -1 ∨ y = 0 ∨ y = 1) with rfl | rfl | rfl <;> rcases (by omega : z = -1 ∨ z = 0 ∨ z = 1) with rfl | rfl | rfl <;> first
    | (exfalso; omega)
    | (clear h1 h2 h3 h4
       simp only [Int.reduceNeg, Int.reduceBEq, Int.reduceNeg, Int.neg_neg, Int.neg_zero] at h5 HB
       go_wp2_with fail
       refine HB.out.mono ?_
       rintro e w' ⟨rfl, rfl⟩
       go_wp2_with fail
       refine (awakeT_any _).mono ?_
       rintro e w7 ⟨rfl, b7⟩
       go_wp2
       go_ret
       exact ⟨rfl, b7⟩)

/-- What the walk gives, for every argument and every world that holds the table. -/
theorem titleOrder_contract (H : Type) (enc : TypeId × Value → H) (W : World) (base : Nat) (args : Array Value) (ds gs : List (DataW H)) (before : List MemPlace)
    (hval : ∀ (j : Nat) t v, Try.f8.params[j]? = some t → args[j]? = some v → Value.okWide Try.prog W .any base t v)
    (hW : DataW.Whole enc Try.prog Try.f8.params.toList Rows.titleOrderSpec.vars false W args.toList ds gs before) :
    Calls Try.prog 8 args W fun e W' => ∃ v, e = .returned v ∧ Rows.titleOrderSpec.post enc Try.prog Try.f8 false true false false W args v W' := by
  have hW' := hW
  obtain ⟨p, q, hA0, hV, hps, hfz, hnd⟩ := hW
  have hA : DataW.TrodAll enc Try.prog W 0 (fun _ => true) true Try.f8.params.toList args.toList ds p := hA0
  rw [Try.params8] at hA hval
  obtain ⟨v0, vs0, d0, ds0, p0, q0, hargs, rfl, rfl, h0, r0⟩ := trodAll_cons hA
  obtain ⟨v1, vs1, d1, ds1, p1, q1, rfl, rfl, rfl, h1, r1⟩ := trodAll_cons r0
  obtain ⟨v2, vs2, d2, ds2, p2, q2, rfl, rfl, rfl, h2, r2⟩ := trodAll_cons r1
  obtain ⟨rfl, rfl, rfl⟩ := trodAll_nil r2
  obtain rfl : args = #[v0, v1, v2] := by cases args; simp_all
  obtain ⟨rfl, rfl⟩ := trodVars_none hV
  obtain ⟨s0, rfl, rfl, rfl, _⟩ := Go.ChangeMaps.open_string Try.underlying9 (hval 0 9 v0 rfl rfl) h0
  obtain ⟨l0, rfl⟩ : ∃ l : List UInt8, s0 = ⟨l.toArray⟩ := ⟨s0.data.toList, by cases s0; simp⟩
  obtain ⟨s1, rfl, rfl, rfl, _⟩ := Go.ChangeMaps.open_string Try.underlying9 (hval 1 9 v1 rfl rfl) h1
  obtain ⟨l1, rfl⟩ : ∃ l : List UInt8, s1 = ⟨l.toArray⟩ := ⟨s1.data.toList, by cases s1; simp⟩
  obtain ⟨s2, rfl, rfl, rfl, _⟩ := Go.ChangeMaps.open_string Try.underlying9 (hval 2 9 v2 rfl rfl) h2
  obtain ⟨l2, rfl⟩ : ∃ l : List UInt8, s2 = ⟨l.toArray⟩ := ⟨s2.data.toList, by cases s2; simp⟩
  clear hA0
  refine (titleOrder_walk W l0 l1 l2).mono fun e W' ⟨he, hb⟩ => ?_
  subst he
  exact ⟨_, rfl, law_post laidOut (by rw [Try.params8]; decide +kernel) rfl Try.underlying4 rfl rfl hW' hb⟩

set_option maxRecDepth 100000 in
theorem titleOrder_lifted (os : Os) (started : os.Started) (H : Type) (enc : TypeId × Value → H) :
    ReturnsInHanded {} Try.checked os 8 .any (Rows.titleOrderSpec.pre6 enc Try.prog Try.f8 Rows.titleOrderRow.domain false) (Rows.titleOrderSpec.post enc Try.prog Try.f8 false true false false) := by
  refine returnsInHanded_of_change (C := Try.checked) own started (by kernel_rfl) Try.func8
    (ChangeSpec.witness6 (enc := enc) (C := Try.checked) false ⟨#[], #[.string .empty, .string .empty, .string .empty], []⟩ 8 (by kernel_rfl) (by kernel_rfl) (by kernel_rfl) (by kernel_rfl)) ?_
  intro W base args ds gs before hval hW _ _
  exact titleOrder_contract H enc W base args ds gs before hval hW

theorem titleOrder_holds : Rows.TitleOrderSaid :=
  OpenClaim.holds_of_wide 8 Try.f8 rfl rfl rfl rfl rfl rfl rfl ⟨rfl, rfl, rfl, rfl, rfl⟩ rfl rfl rfl rfl rfl (by kernel_rfl) Try.func8 (by kernel_rfl)
    (of_decide_eq_true (by kernel_rfl)) (by unfold Func.isWrapper; first | (rw [if_pos (by decide +kernel)]; kernel_rfl) | (rw [if_neg (by decide +kernel)]; exact ⟨rfl, rfl⟩))
    (fun os started H enc _ => titleOrder_lifted os started H enc)

end Go.Proofs.Ytkgegjifnegknaa
