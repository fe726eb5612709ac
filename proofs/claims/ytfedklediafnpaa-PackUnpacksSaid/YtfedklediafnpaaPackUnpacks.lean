/-
  PackUnpacks: whatever octets there are, the numbers of any widths with which they begin are the document's, or refused with its error; what was handed in stays. For every input.
-/
import Derived.Test.YtfedklediafnpaaPackL
import Derived.Test.YtfedklediafnpaaPlain
import Derived.Deep.DeepCutAuto
namespace Go.Proofs.Ytfedklediafnpaa
open Go.ChangeShapes Go.WideShapes Go.ChangeAt Go.RowKit

set_option maxRecDepth 100000 in
set_option maxHeartbeats 1000000 in
theorem packUnpacks_walk (w : World) (v0 v1 : Value) (l : List UInt8) (ws : List Int) (h0 : Bs w w.heap.size v0 l) (h1 : Is .i64 w w.heap.size v1 ws) :
    Calls Try.prog 3 #[v0, v1] w fun e w' => e = .returned (.bool true) ∧ Below w.heap.size w w' := by
  obtain ⟨A0, c0, rfl, hc0, hx0, _⟩ := h0.openD
  obtain ⟨A1, c1, rfl, hc1, hx1, _⟩ := h1.open_
  go_enter Try.func3, Try.ntmps3
  go_upto_if 12 with fail
  go_cut [0] (fun s wx => w = wx ∧ Bs w w.heap.size s (l.take 300))
  case first =>
    by_cases h : 300 < l.length
    · have h' : (300 : Int) < l.length := by omega
      have hl2 : (300 : Int) ≤ c0 := by omega
      have hl3 : (300 : Nat) ≤ c0 := by omega
      have hh := Lib.hid (h0.head (k := 300) (by omega))
      clear h0
      go_wp2
      go_meet
      exact ⟨rfl, hh.out⟩
    · have h' : ¬ (300 : Int) < l.length := by omega
      go_wp2
      go_meet
      exact ⟨rfl, by rw [List.take_of_length_le (by omega)]; exact h0⟩
  case rest =>
    obtain ⟨rfl, b0⟩ := hcut
    clear h0
    have hm0 : (l.take 300).length ≤ 300 := by rw [List.length_take]; omega
    generalize l.take 300 = m at *
    obtain ⟨A2, c2, rfl, hc2, hx2, _⟩ := b0.openD
    go_upto_if 17 with fail
    go_cut [1] (fun s wx => w = wx ∧ Is .i64 w w.heap.size s (ws.take 60))
    case first =>
      by_cases h : 60 < ws.length
      · have h' : (60 : Int) < ws.length := by omega
        have hl2 : (60 : Int) ≤ c1 := by omega
        have hl3 : (60 : Nat) ≤ c1 := by omega
        have hh := Lib.hid (h1.head (k := 60) (by omega))
        clear h1
        go_wp2
        go_meet
        exact ⟨rfl, hh.out⟩
      · have h' : ¬ (60 : Int) < ws.length := by omega
        go_wp2
        go_meet
        exact ⟨rfl, by rw [List.take_of_length_le (by omega)]; exact h1⟩
    case rest =>
      obtain ⟨rfl, b1⟩ := hcut
      clear h1
      have hm1 : (ws.take 60).length ≤ 60 := by rw [List.length_take]; omega
      generalize ws.take 60 = us at *
      obtain ⟨A3, c3, rfl, hc3, hx3, _⟩ := b1.open_
      have hcv := run_string_of (P := Try.prog) b0 22 9 5 Try.underlying22 Try.underlying5 Try.underlying9
      go_wp2_with fail
      refine (unpack_any _ _ _ _ m us b0 b1 (Nat.le_refl _) (by omega)).mono ?_
      rintro e w1 ⟨x1, rfl, hown1, hb1⟩
      have hs1 : Us w1 w1.heap.size x1 (Pk.unpacked m us) := Us.of_own hown1
      clear hown1 hcv
      go_wp2_with fail
      refine (runpack_any _ _ w.heap.size m us (by omega) (Rds.ext b1 (Nat.le_refl _) hb1) hb1.size (by omega)).mono ?_
      rintro e w2 ⟨x2, rfl, hown2, hb2⟩
      have hs2 : Us w2 w2.heap.size x2 (Pk.unpacked m us) := Us.of_own hown2
      have hs1' : Us w2 w2.heap.size x1 (Pk.unpacked m us) := Rds.more (Rds.ext hs1 (Nat.le_refl _) hb2) hb2.size
      have hb := hb1.trans (hb2.mono hb1.size)
      clear hown2
      go_wp2_with fail
      refine (same_any _ _ _ _ _ _ hs1' hs2).mono ?_
      rintro e w3 ⟨rfl, hb3⟩
      rw [beq_self_eq_true]
      have hbb := hb.trans (hb3.mono hb.size)
      have hcv := run_string_of (P := Try.prog) (b0.ext (Nat.le_refl _) hbb) 22 9 5 Try.underlying22 Try.underlying5 Try.underlying9
      go_wp2_with fail
      refine (awakeP_any _).mono ?_
      rintro e w4 ⟨rfl, hb4⟩
      go_wp2
      go_ret
      exact ⟨rfl, hbb.trans (hb4.mono hbb.size)⟩

/-- What the walk gives, for every argument and every world that holds the table. -/
theorem packUnpacks_contract (H : Type) (enc : TypeId × Value → H) (W : World) (base : Nat) (args : Array Value) (ds gs : List (DataW H)) (before : List MemPlace)
    (hval : ∀ (j : Nat) t v, Try.f3.params[j]? = some t → args[j]? = some v → Value.okWide Try.prog W .any base t v)
    (hW : DataW.Whole enc Try.prog Try.f3.params.toList Rows.packUnpacksSpec.vars false W args.toList ds gs before) :
    Calls Try.prog 3 args W fun e W' => ∃ v, e = .returned v ∧ Rows.packUnpacksSpec.post enc Try.prog Try.f3 false true false false W args v W' := by
  have hW' := hW
  obtain ⟨p, q, hA0, hV, hps, hfz, hnd⟩ := hW
  have hA : DataW.TrodAll enc Try.prog W 0 (fun _ => true) true Try.f3.params.toList args.toList ds p := hA0
  rw [Try.params3] at hA hval
  obtain ⟨v0, vs0, d0, ds0, p0, q0, hargs, rfl, rfl, h0, r0⟩ := trodAll_cons hA
  obtain ⟨v1, vs1, d1, ds1, p1, q1, rfl, rfl, rfl, h1, r1⟩ := trodAll_cons r0
  obtain ⟨rfl, rfl, rfl⟩ := trodAll_nil r1
  obtain rfl : args = #[v0, v1] := by cases args; simp_all
  obtain ⟨rfl, rfl⟩ := trodVars_none hV
  obtain ⟨l0, b0⟩ := bs_of_trod Try.underlying22 Try.underlying5 cellsU8 (hval 0 22 v0 rfl rfl) h0
  obtain ⟨l1, b1, _⟩ := is_of_trod (k := .i64) Try.underlying23 Try.underlying3 (by kernel_rfl) (hval 1 23 v1 rfl rfl) h1
  clear hA0
  refine (packUnpacks_walk W v0 v1 l0 l1 b0 b1).mono fun e W' ⟨he, hb⟩ => ?_
  subst he
  exact ⟨_, rfl, law_post laidOut (by rw [Try.params3]; decide +kernel) rfl Try.underlying4 rfl rfl hW' hb⟩

set_option maxRecDepth 100000 in
theorem packUnpacks_lifted (os : Os) (started : os.Started) (H : Type) (enc : TypeId × Value → H) :
    ReturnsInHanded {} Try.checked os 3 .any (Rows.packUnpacksSpec.pre6 enc Try.prog Try.f3 Rows.packUnpacksRow.domain false) (Rows.packUnpacksSpec.post enc Try.prog Try.f3 false true false false) := by
  refine returnsInHanded_of_change (C := Try.checked) own started (by kernel_rfl) Try.func3
    (ChangeSpec.witness6 (enc := enc) (C := Try.checked) false ⟨#[], #[.slice none 0 0, .slice none 0 0], []⟩ 8 (by kernel_rfl) (by kernel_rfl) (by kernel_rfl) (by kernel_rfl)) ?_
  intro W base args ds gs before hval hW _ _
  exact packUnpacks_contract H enc W base args ds gs before hval hW

theorem packUnpacks_holds : Rows.PackUnpacksSaid :=
  OpenClaim.holds_of_wide 3 Try.f3 rfl rfl rfl rfl rfl rfl rfl ⟨rfl, rfl, rfl, rfl, rfl⟩ rfl rfl rfl rfl rfl (by kernel_rfl) Try.func3 (by kernel_rfl)
    (of_decide_eq_true (by kernel_rfl)) (by unfold Func.isWrapper; first | (rw [if_pos (by decide +kernel)]; kernel_rfl) | (rw [if_neg (by decide +kernel)]; exact ⟨rfl, rfl⟩))
    (fun os started H enc _ => packUnpacks_lifted os started H enc)

end Go.Proofs.Ytfedklediafnpaa
