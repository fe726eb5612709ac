/-
  TitleJoins: of two well formed texts one behind the other there are as many runes as both have, and the head of as many as the first one has is that. For every input.
-/
import Derived.Test.YtkgegjifnegknaaTitleL
import Derived.Test.YtkgegjifnegknaaPlain
import Derived.ChangeMaps5
namespace Go.Proofs.Ytkgegjifnegknaa
open Go.ChangeShapes Go.WideShapes Go.ChangeAt Go.RowKit

set_option maxRecDepth 100000 in
set_option maxHeartbeats 2000000 in
theorem titleJoins_walk (w : World) (l m : List UInt8) :
    Calls Try.prog 7 #[.string ⟨l.toArray⟩, .string ⟨m.toArray⟩] w fun e w' => e = .returned (.bool true) ∧ Below w.heap.size w w' := by
  go_enter Try.func7, Try.ntmps7
  go_wp2_with (go_at_call 10; refine (few_any _ _).mono ?_; rintro e w' ⟨rfl, rfl⟩)
  have hla : (l.take 200).length ≤ 200 := by rw [List.length_take]; omega
  have hlb : (m.take 200).length ≤ 200 := by rw [List.length_take]; omega
  generalize l.take 200 = a at *
  generalize m.take 200 = b at *
  refine (count_any a _ (by omega)).mono ?_
  rintro e w1 ⟨rfl, b1⟩
  go_wp2_with fail
  refine (count_any b _ (by omega)).mono ?_
  rintro e w2 ⟨rfl, b2⟩
  have c2 := b1.trans (b2.mono b1.size)
  have hra := Tl.runes_len a
  have hrb := Tl.runes_len b
  have hca := Tl.cnt_all a
  have hcb := Tl.cnt_all b
  have HJ := Lib.hid (fun h1 h2 => Tl.cnt_app a b h1 h2)
  have HH := Lib.hid (fun h => Tl.head_app a b h)
  have hap := ba_append a b
  have hcn : ∀ W, Calls Try.prog 11 #[.string ⟨(a ++ b).toArray⟩] W fun e w' => e = .returned (.tuple #[.int .i64 (Tl.cntR (a ++ b) : Nat), .int .i64 (Tl.cntO (a ++ b) : Nat)]) ∧ Below W.heap.size W w' := fun W => count_any _ W (by rw [List.length_append]; omega)
  have hhd : ∀ W, Calls Try.prog 20 #[.string ⟨(a ++ b).toArray⟩, .int .i64 (Tl.cntR a : Nat)] W fun e w' => e = .returned (.string ⟨(Tl.headN (a ++ b) (Tl.cntR a : Nat)).toArray⟩) ∧ Below W.heap.size W w' := fun W => head_any _ _ W (by rw [List.length_append]; omega) (by omega)
  by_cases hx : 0 < Tl.cntO a
  · have hx' : (0 : Int) < (Tl.cntO a : Nat) := by omega
    generalize Tl.cntO a = oa at *
    generalize Tl.cntR a = ra at *
    generalize Tl.cntO b = ob at *
    generalize Tl.cntR b = rb at *
    clear hcn hhd hap HJ HH
    go_wp2_with fail
    refine (awakeT_any _).mono ?_
    rintro e w7 ⟨rfl, b7⟩
    go_wp2
    go_ret
    exact ⟨rfl, c2.trans (b7.mono c2.size)⟩
  · have hx' : ¬ (0 : Int) < (Tl.cntO a : Nat) := by omega
    by_cases hy : 0 < Tl.cntO b
    · have hy' : (0 : Int) < (Tl.cntO b : Nat) := by omega
      generalize Tl.cntO a = oa at *
      generalize Tl.cntR a = ra at *
      generalize Tl.cntO b = ob at *
      generalize Tl.cntR b = rb at *
      clear hcn hhd hap HJ HH
      go_wp2_with fail
      refine (awakeT_any _).mono ?_
      rintro e w7 ⟨rfl, b7⟩
      go_wp2
      go_ret
      exact ⟨rfl, c2.trans (b7.mono c2.size)⟩
    · have hy' : ¬ (0 : Int) < (Tl.cntO b : Nat) := by omega
      have hj := HJ.out (by omega) (by omega)
      have hh := HH.out (by omega)
      simp only [hj.1, hj.2] at hcn
      simp only [hh] at hhd
      rw [← hap] at hcn hhd
      clear hj hh HJ HH
      generalize Tl.cntO a = oa at *
      generalize Tl.cntR a = ra at *
      generalize Tl.cntO b = ob at *
      generalize Tl.cntR b = rb at *
      have hsa : (⟨a.toArray⟩ : ByteArray).size ≤ 200 := by rw [ba_size]; omega
      have hsb : (⟨b.toArray⟩ : ByteArray).size ≤ 200 := by rw [ba_size]; omega
      generalize (⟨a.toArray⟩ : ByteArray) = A at *
      generalize (⟨b.toArray⟩ : ByteArray) = B at *
      have bra : ra ≤ 200 := by omega
      have brb : rb ≤ 200 := by omega
      have HC := Lib.hid hcn
      have HD := Lib.hid hhd
      clear hcn hhd hap hca hcb
      go_wp2_with fail
      refine (HC.out _).mono ?_
      rintro e w3 ⟨rfl, b3⟩
      have c3 := c2.trans (b3.mono c2.size)
      rw [show ((ra + rb : Nat) : Int) = (ra : Int) + rb by omega, show ((0 : Nat) : Int) = 0 from rfl]
      have hoa : oa ≤ 0 := by omega
      have hob : ob ≤ 0 := by omega
      clear hx hx' hy hy' hra hrb
      go_wp2_with fail
      refine (HD.out _).mono ?_
      rintro e w4 ⟨rfl, b4⟩
      have c4 := c3.trans (b4.mono c3.size)
      clear b1 b2 b3 b4 c2 c3
      go_wp2_with fail
      refine (awakeT_any _).mono ?_
      rintro e w7 ⟨rfl, b7⟩
      go_wp2
      go_ret
      exact ⟨rfl, c4.trans (b7.mono c4.size)⟩

/-- What the walk gives, for every argument and every world that holds the table. -/
theorem titleJoins_contract (H : Type) (enc : TypeId × Value → H) (W : World) (base : Nat) (args : Array Value) (ds gs : List (DataW H)) (before : List MemPlace)
    (hval : ∀ (j : Nat) t v, Try.f7.params[j]? = some t → args[j]? = some v → Value.okWide Try.prog W .any base t v)
    (hW : DataW.Whole enc Try.prog Try.f7.params.toList Rows.titleJoinsSpec.vars false W args.toList ds gs before) :
    Calls Try.prog 7 args W fun e W' => ∃ v, e = .returned v ∧ Rows.titleJoinsSpec.post enc Try.prog Try.f7 false true false false W args v W' := by
  have hW' := hW
  obtain ⟨p, q, hA0, hV, hps, hfz, hnd⟩ := hW
  have hA : DataW.TrodAll enc Try.prog W 0 (fun _ => true) true Try.f7.params.toList args.toList ds p := hA0
  rw [Try.params7] at hA hval
  obtain ⟨v0, vs0, d0, ds0, p0, q0, hargs, rfl, rfl, h0, r0⟩ := trodAll_cons hA
  obtain ⟨v1, vs1, d1, ds1, p1, q1, rfl, rfl, rfl, h1, r1⟩ := trodAll_cons r0
  obtain ⟨rfl, rfl, rfl⟩ := trodAll_nil r1
  obtain rfl : args = #[v0, v1] := by cases args; simp_all
  obtain ⟨rfl, rfl⟩ := trodVars_none hV
  obtain ⟨s0, rfl, rfl, rfl, _⟩ := Go.ChangeMaps.open_string Try.underlying9 (hval 0 9 v0 rfl rfl) h0
  obtain ⟨l0, rfl⟩ : ∃ l : List UInt8, s0 = ⟨l.toArray⟩ := ⟨s0.data.toList, by cases s0; simp⟩
  obtain ⟨s1, rfl, rfl, rfl, _⟩ := Go.ChangeMaps.open_string Try.underlying9 (hval 1 9 v1 rfl rfl) h1
  obtain ⟨l1, rfl⟩ : ∃ l : List UInt8, s1 = ⟨l.toArray⟩ := ⟨s1.data.toList, by cases s1; simp⟩
  clear hA0
  refine (titleJoins_walk W l0 l1).mono fun e W' ⟨he, hb⟩ => ?_
  subst he
  exact ⟨_, rfl, law_post laidOut (by rw [Try.params7]; decide +kernel) rfl Try.underlying4 rfl rfl hW' hb⟩

set_option maxRecDepth 100000 in
theorem titleJoins_lifted (os : Os) (started : os.Started) (H : Type) (enc : TypeId × Value → H) :
    ReturnsInHanded {} Try.checked os 7 .any (Rows.titleJoinsSpec.pre6 enc Try.prog Try.f7 Rows.titleJoinsRow.domain false) (Rows.titleJoinsSpec.post enc Try.prog Try.f7 false true false false) := by
  refine returnsInHanded_of_change (C := Try.checked) own started (by kernel_rfl) Try.func7
    (ChangeSpec.witness6 (enc := enc) (C := Try.checked) false ⟨#[], #[.string .empty, .string .empty], []⟩ 8 (by kernel_rfl) (by kernel_rfl) (by kernel_rfl) (by kernel_rfl)) ?_
  intro W base args ds gs before hval hW _ _
  exact titleJoins_contract H enc W base args ds gs before hval hW

theorem titleJoins_holds : Rows.TitleJoinsSaid :=
  OpenClaim.holds_of_wide 7 Try.f7 rfl rfl rfl rfl rfl rfl rfl ⟨rfl, rfl, rfl, rfl, rfl⟩ rfl rfl rfl rfl rfl (by kernel_rfl) Try.func7 (by kernel_rfl)
    (of_decide_eq_true (by kernel_rfl)) (by unfold Func.isWrapper; first | (rw [if_pos (by decide +kernel)]; kernel_rfl) | (rw [if_neg (by decide +kernel)]; exact ⟨rfl, rfl⟩))
    (fun os started H enc _ => titleJoins_lifted os started H enc)

end Go.Proofs.Ytkgegjifnegknaa
