/-
  PathParents: the names of a path's parent, and its last one, are those where it leads; those names are under the parent's, and under no longer ones. For every input.
-/
import Derived.Test.YtahcbgllnoopgaaPaN
import Derived.Test.YtahcbgllnoopgaaPlain
import Derived.Test.YtahcbgllnoopgaaLeaf
namespace Go.Proofs.Ytahcbgllnoopgaa
open Go.ChangeShapes Go.WideShapes Go.ChangeAt Go.RowKit Go.Lib

theorem under_last (ps : List Pa.N) (la : Pa.N) : Pa.under (ps ++ [la]) ps = true ∧ Pa.under ps (ps ++ [la]) = false ∧ Pa.under (ps ++ [la]) (ps ++ [la]) = false := by
  unfold Pa.under
  refine ⟨?_, ?_, ?_⟩
  · rw [decide_eq_true_iff]
    exact ⟨by simp, by simp⟩
  · rw [decide_eq_false_iff_not]
    intro h
    have := h.1
    simp at this
    omega
  · rw [decide_eq_false_iff_not]
    intro h
    exact Nat.lt_irrefl _ h.1

set_option maxRecDepth 100000 in
set_option maxHeartbeats 4000000 in
theorem pathParents_walk (w : World) (b0 : List UInt8) :
    Calls Try.prog 4 #[.string ⟨b0.toArray⟩] w fun e w' => e = .returned (.bool true) ∧ Below w.heap.size w w' := by
  have HFE := Lib.hid (fewP_any b0)
  have hbl : (b0.take 260).length ≤ 1000000 := by have := List.length_take_le 260 b0; omega
  generalize b0.take 260 = b at *
  generalize (⟨b0.toArray⟩ : ByteArray) = S0 at *
  have HPA := Lib.hid (parse_any b)
  have HPP := Lib.hid (parent_any b)
  have hg8 := (Pa.good_parse b).1
  have hcase : ((Pa.parse b).2 ≠ 0 ∧ Pa.parent b = ([], [], (Pa.parse b).2)) ∨ (Pa.parse b = ([], 0) ∧ Pa.parent b = ([], [], 1)) ∨ ∃ ps la, Pa.parse b = (ps ++ [la], 0) ∧ Pa.parent b = (ps, la, 0) := by
    unfold Pa.parent
    by_cases h0 : (Pa.parse b).2 = 0
    · rw [if_neg (by rw [h0]; simp)]
      by_cases h1 : (Pa.parse b).1 = []
      · rw [if_pos h1]
        exact .inr (.inl ⟨Prod.ext h1 h0, rfl⟩)
      · rw [if_neg h1]
        refine .inr (.inr ⟨_, _, Prod.ext ?_ h0, rfl⟩)
        show (Pa.parse b).1 = (Pa.parse b).1.dropLast ++ [(Pa.parse b).1.getLastD []]
        rw [List.getLastD_eq_getLast?, List.getLast?_eq_some_getLast h1]
        exact (List.dropLast_concat_getLast h1).symm
    · rw [if_pos h0]
      exact .inl ⟨h0, rfl⟩
  generalize (⟨b.toArray⟩ : ByteArray) = S at *
  generalize Pa.parse b = PR at *
  generalize Pa.parent b = PT at *
  obtain ⟨ns, er⟩ := PR
  dsimp only at HPA hg8 hcase
  go_enter Try.func4, Try.ntmps4
  go_wp2_with fail
  refine (HFE.out w).mono ?_
  rintro e w0 ⟨rfl, rfl⟩
  go_wp2_with fail
  refine (HPA.out w hbl).mono ?_
  rintro e w1 ⟨u1, rfl, hs1, b1⟩
  obtain ⟨A1, c1, rfl, _, _, _⟩ := hs1.open_
  rcases hcase with ⟨her, rfl⟩ | ⟨hns, rfl⟩ | ⟨ps, la, hns, rfl⟩
  · dsimp only at HPP
    have hz : ((er : Int) == 0) = false := by rw [beq_eq_false_iff_ne]; omega
    have hz2 : ((er : Int) != 0) = true := by rw [bne_iff_ne]; omega
    clear her
    go_wp2_with fail
    refine (HPP.out w1 hbl).mono ?_
    rintro e w2 ⟨u2, rfl, hs2, b2⟩
    obtain ⟨A2, c2, rfl, _, _, _⟩ := hs2.open_
    have d2 := b1.trans (b2.mono b1.size)
    clear hs1 hs2 b1 b2
    go_wp2_with fail
    refine (awake_any w2).mono ?_
    rintro e w3 ⟨rfl, b3⟩
    go_wp2
    go_ret
    exact ⟨rfl, d2.trans (b3.mono d2.size)⟩
  · injection hns with e1 e2
    subst e1 e2
    dsimp only at HPP
    go_wp2_with fail
    refine (HPP.out w1 hbl).mono ?_
    rintro e w2 ⟨u2, rfl, hs2, b2⟩
    obtain ⟨A2, c2, rfl, _, _, _⟩ := hs2.open_
    have d2 := b1.trans (b2.mono b1.size)
    clear hs1 hs2 b1 b2
    go_wp2_with fail
    refine (awake_any w2).mono ?_
    rintro e w3 ⟨rfl, b3⟩
    go_wp2
    go_ret
    exact ⟨rfl, d2.trans (b3.mono d2.size)⟩
  · injection hns with e1 e2
    subst e1 e2
    dsimp only at HPP
    have HUL := Lib.hid (under_last ps la)
    have hll : (ps ++ [la]).length = ps.length + 1 := by rw [List.length_append, List.length_singleton]
    have hz : (((ps.length + 1 : Nat) : Int) == 0) = false := by rw [beq_eq_false_iff_ne]; omega
    rw [hll] at hg8
    rw [hll]
    have HSL := Lib.hid (show ∀ W : List Value, strs ps ++ [Value.string ⟨la.toArray⟩] = strs (ps ++ [la]) from fun _ => by rw [strs_app]; rfl)
    rw [hll] at hs1
    have HS1 := Lib.hid hs1
    clear hs1
    go_wp2_with fail
    refine (HPP.out w1 hbl).mono ?_
    rintro e w2 ⟨u2, rfl, hs2, b2⟩
    obtain ⟨A2, c2, rfl, _, _, _⟩ := hs2.open_
    have hs12 : Strs w2 w2.heap.size (.slice A1 (ps.length + 1) c1) (ps ++ [la]) := (Rds.ext HS1.out (Nat.le_refl _) b2).more b2.size
    have d2 := b1.trans (b2.mono b1.size)
    have HS12 := Lib.hid hs12
    have HS2 := Lib.hid hs2
    clear hs12 hs2 b1 b2 HS1
    generalize hla : (⟨la.toArray⟩ : ByteArray) = SL at *
    have HLA := Lib.hid hla
    clear hla
    go_wp2_with (at_builtin; refine stop_ ?_)
    have hown0 := (Blk.new w2 9 #[]).own (base := w2.heap.size) (Nat.le_refl _) 0 0 1 rfl (Nat.le_refl _) (by simp [maxLen])
    rw [Nat.zero_mul, List.take_zero] at hown0
    have hB0 := (Below.refl w2.heap.size w2).alloc (Nat.le_refl _) (.cells #[] 9)
    obtain ⟨v1, wa, hruna, howna, hgra, _⟩ := run_append_rds (P := Try.prog) (ty := 23) Try.underlying23 infoStr rfl (by decide) hown0 (Rds.ext HS2.out (Nat.le_refl _) hB0) (strs_one _) (by rw [maxLen_eq]; omega) (by omega) hB0.size
    have hBa := hB0.grown hgra hB0.size (fun j e => (hown0.lt j e).1)
    rw [List.nil_append, Nat.zero_add] at howna
    refine wpList_append_want rfl _ _ _ rfl rfl rfl hruna ?_
    obtain ⟨A3, c3, rfl⟩ := own_slice howna
    clear hruna hgra hown0 hB0
    go_wp2_with (at_builtin; refine stop_ ?_)
    have hown1 := howna.alloc (.cells #[.string SL] 9)
    have hB1 := hBa.alloc hBa.size (.cells #[.string SL] 9)
    have hr1 := (Blk.new wa 9 #[.string SL]).rds 0 1 1 1 (by simp) (by omega) (by simp [maxLen])
    obtain ⟨v2, wb, hrunb, hownb, hgrb, _⟩ := run_append_rds (P := Try.prog) (ty := 23) Try.underlying23 infoStr rfl (by decide) hown1 hr1 (by simp [Value.oneCell']) (by rw [maxLen_eq]; omega) (by omega) hB1.size
    have hBb := hB1.grown hgrb hB1.size (fun j e => (hown1.lt j e).1)
    refine wpList_append_want rfl _ _ _ rfl rfl rfl hrunb ?_
    obtain ⟨A4, c4, rfl⟩ := own_slice hownb
    have hS : Strs wb wb.heap.size (.slice A4 (ps.length + 1) c4) (ps ++ [la]) := by
      have h2 := hownb
      simp only [List.drop_zero] at h2
      rw [show List.take (1 * 1) [Value.string SL] = [Value.string SL] from rfl, HSL.out []] at h2
      exact Strs.of_own h2
    have hs1b := (Rds.ext HS12.out (Nat.le_refl _) hBb).more hBb.size
    have hs2b := (Rds.ext HS2.out (Nat.le_refl _) hBb).more hBb.size
    have db := d2.trans (hBb.mono d2.size)
    clear hrunb hgrb hown1 hB1 hr1 howna hBa hownb hBb d2
    go_wp2_with fail
    refine (sameR_any _ _ (ps ++ [la]) (ps ++ [la]) wb hS hs1b (by omega)).mono ?_
    rintro e w3 ⟨rfl, b3⟩
    rw [decide_eq_true (rfl : ps ++ [la] = ps ++ [la])]
    have hs13 := (hs1b.ext (Nat.le_refl _) b3).more b3.size
    have hs23 := (hs2b.ext (Nat.le_refl _) b3).more b3.size
    have d3 := db.trans (b3.mono db.size)
    clear b3 hs1b hs2b db hS
    go_wp2_with fail
    refine (under_any _ _ (ps ++ [la]) ps w3 hs13 hs23).mono ?_
    rintro e w4 ⟨rfl, b4⟩
    rw [HUL.out.1]
    have hs14 := (hs13.ext (Nat.le_refl _) b4).more b4.size
    have hs24 := (hs23.ext (Nat.le_refl _) b4).more b4.size
    have d4 := d3.trans (b4.mono d3.size)
    clear b4 hs13 hs23 d3
    go_wp2_with fail
    refine (under_any _ _ ps (ps ++ [la]) w4 hs24 hs14).mono ?_
    rintro e w5 ⟨rfl, b5⟩
    rw [HUL.out.2.1]
    have hs15 := (hs14.ext (Nat.le_refl _) b5).more b5.size
    have d5 := d4.trans (b5.mono d4.size)
    clear b5 hs14 hs24 d4
    go_wp2_with fail
    refine (under_any _ _ (ps ++ [la]) (ps ++ [la]) w5 hs15 hs15).mono ?_
    rintro e w6 ⟨rfl, b6⟩
    rw [HUL.out.2.2]
    have d6 := d5.trans (b6.mono d5.size)
    clear b6 hs15 d5
    go_wp2_with fail
    refine (awake_any w6).mono ?_
    rintro e w7 ⟨rfl, b7⟩
    go_wp2
    go_ret
    exact ⟨rfl, d6.trans (b7.mono d6.size)⟩

/-- What the walk gives, for every argument and every world that holds the table. -/
theorem pathParents_contract (H : Type) (enc : TypeId × Value → H) (W : World) (base : Nat) (args : Array Value) (ds gs : List (DataW H)) (before : List MemPlace)
    (hval : ∀ (j : Nat) t v, Try.f4.params[j]? = some t → args[j]? = some v → Value.okWide Try.prog W .any base t v)
    (hW : DataW.Whole enc Try.prog Try.f4.params.toList Rows.pathParentsSpec.vars false W args.toList ds gs before) :
    Calls Try.prog 4 args W fun e W' => ∃ v, e = .returned v ∧ Rows.pathParentsSpec.post enc Try.prog Try.f4 false true false false W args v W' := by
  have hW' := hW
  obtain ⟨p, q, hA0, hV, hps, hfz, hnd⟩ := hW
  have hA : DataW.TrodAll enc Try.prog W 0 (fun _ => true) true Try.f4.params.toList args.toList ds p := hA0
  rw [Try.params4] at hA hval
  obtain ⟨v0, vs0, d0, ds0, p0, q0, hargs, rfl, rfl, h0, r0⟩ := trodAll_cons hA
  obtain ⟨rfl, rfl, rfl⟩ := trodAll_nil r0
  obtain rfl : args = #[v0] := by cases args; simp_all
  obtain ⟨rfl, rfl⟩ := trodVars_none hV
  obtain ⟨s0, rfl, rfl, rfl, _⟩ := Go.ChangeMaps.open_string Try.underlying9 (hval 0 9 v0 rfl rfl) h0
  obtain ⟨l0, rfl⟩ : ∃ l : List UInt8, s0 = ⟨l.toArray⟩ := ⟨s0.data.toList, by cases s0; simp⟩
  clear hA0
  refine (pathParents_walk W l0).mono fun e W' ⟨he, hb⟩ => ?_
  subst he
  exact ⟨_, rfl, law_post laidOut (by rw [Try.params4]; decide +kernel) rfl Try.underlying4 rfl rfl hW' hb⟩

set_option maxRecDepth 100000 in
theorem pathParents_lifted (os : Os) (started : os.Started) (H : Type) (enc : TypeId × Value → H) :
    ReturnsInHanded {} Try.checked os 4 .any (Rows.pathParentsSpec.pre6 enc Try.prog Try.f4 Rows.pathParentsRow.domain false) (Rows.pathParentsSpec.post enc Try.prog Try.f4 false true false false) := by
  refine returnsInHanded_of_change (C := Try.checked) own started (by kernel_rfl) Try.func4
    (ChangeSpec.witness6 (enc := enc) (C := Try.checked) false ⟨#[], #[.string .empty], []⟩ 8 (by kernel_rfl) (by kernel_rfl) (by kernel_rfl) (by kernel_rfl)) ?_
  intro W base args ds gs before hval hW _ _
  exact pathParents_contract H enc W base args ds gs before hval hW

theorem pathParents_holds : Rows.PathParentsSaid :=
  OpenClaim.holds_of_wide 4 Try.f4 rfl rfl rfl rfl rfl rfl rfl ⟨rfl, rfl, rfl, rfl, rfl⟩ rfl rfl rfl rfl rfl (by kernel_rfl) Try.func4 (by kernel_rfl)
    (of_decide_eq_true (by kernel_rfl)) (by unfold Func.isWrapper; first | (rw [if_pos (by decide +kernel)]; kernel_rfl) | (rw [if_neg (by decide +kernel)]; exact ⟨rfl, rfl⟩))
    (fun os started H enc _ => pathParents_lifted os started H enc)

end Go.Proofs.Ytahcbgllnoopgaa
